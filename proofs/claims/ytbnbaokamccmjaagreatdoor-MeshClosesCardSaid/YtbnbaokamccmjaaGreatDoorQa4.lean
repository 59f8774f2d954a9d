/- rational: read, Valid. -/
import Derived.Test.YtbnbaokamccmjaaGreatDoorQa3
set_option linter.unusedVariables false
set_option linter.unusedSimpArgs false
namespace Go.Proofs.YtbnbaokamccmjaaGreatDoor
open Go Go.RowKit

theorem rcut_walk (s : ByteArray) (hs : s.size ≤ 100000000) (w : World) (hB : Bw w) :
    Calls Tryz.prog 147 #[.string s, .string ⟨#[47]⟩] w fun e w' => e = .returned (.tuple #[.string ⟨(Lib.cut s.data.toList [47]).1.toArray⟩, .string ⟨(Lib.cut s.data.toList [47]).2.1.toArray⟩, .bool (Lib.cut s.data.toList [47]).2.2]) ∧ Below w.heap.size w w' := by
  obtain ⟨m, hm⟩ := hB.len
  refine (Tryz.strings_Cut s ⟨#[47]⟩ m w (by omega) hm).mono ?_
  rintro e w' ⟨rfl, n, rfl⟩
  exact ⟨rfl, below_drewN (Below.refl _ _) n⟩

set_option maxHeartbeats 1000000 in
theorem rread_whole (s p d : ByteArray) (r : Bool) (w : World) (hB : Bw w)
    (hc : ∀ w, Bw w → Calls Tryz.prog 147 #[.string s, .string ⟨#[47]⟩] w fun e w' => e = .returned (.tuple #[.string p, .string d, .bool false]) ∧ Below w.heap.size w w')
    (hv : ∀ w, Calls Tryz.prog 148 #[.string p] w fun e w' => e = .returned (.bool r) ∧ Below w.heap.size w w') :
    Calls Tryz.prog 113 #[.string s] w fun e w' => e = .returned (.tuple #[.agg #[.string p, .string ⟨#[49]⟩], .bool r]) ∧ Below w.heap.size w w' := by
  have HC := Lib.hid hc
  have HV := Lib.hid hv
  clear hc hv
  go_enter Tryz.func113, Tryz.ntmps113
  go_wp2_with fail
  refine (HC.out _ (hB.below (by repeat (first | exact br _ | assumption | refine ba ?_ | refine bd ?_ | refine below_drewN ?_ _ | refine bs ?_ (by (try simp) <;> omega))))).mono ?_
  rintro e w1 ⟨rfl, g1⟩
  have hz1 : w.heap.size < w1.heap.size := by have := g1.size; (try simp at this); omega
  have B1 : Below w.heap.size w w1 := bn (by repeat (first | exact br _ | assumption | refine ba ?_ | refine bd ?_ | refine below_drewN ?_ _ | refine bs ?_ (by (try simp) <;> omega))) g1
  have c1_0_0 : w1.cell? ⟨w.heap.size, 0, none⟩ = some (.string ⟨#[]⟩) := bc g1 (by first | with_reducible assumption | go_simp)
  have f1_0_0 : w1.frozen? ⟨w.heap.size, 0, none⟩ = false := bfz g1 (by (try simp) <;> omega) (by first | with_reducible assumption | go_simp)
  have c1_0_1 : w1.cell? ⟨w.heap.size, 1, none⟩ = some (.string ⟨#[]⟩) := bc g1 (by first | with_reducible assumption | go_simp)
  have f1_0_1 : w1.frozen? ⟨w.heap.size, 1, none⟩ = false := bfz g1 (by (try simp) <;> omega) (by first | with_reducible assumption | go_simp)
  clear g1
  go_wp2_with fail
  refine (HV.out _).mono ?_
  rintro e w2 ⟨rfl, g2⟩
  have hz2 : w.heap.size < w2.heap.size := by have := g2.size; (try simp at this); omega
  have B2 : Below w.heap.size w w2 := bn (by repeat (first | exact br _ | assumption | refine ba ?_ | refine bd ?_ | refine below_drewN ?_ _ | refine bs ?_ (by (try simp) <;> omega))) g2
  have c2_0_0 : w2.cell? ⟨w.heap.size, 0, none⟩ = some (.string ⟨#[]⟩) := bc g2 (by first | with_reducible assumption | go_simp)
  have f2_0_0 : w2.frozen? ⟨w.heap.size, 0, none⟩ = false := bfz g2 (by (try simp) <;> omega) (by first | with_reducible assumption | go_simp)
  have c2_0_1 : w2.cell? ⟨w.heap.size, 1, none⟩ = some (.string ⟨#[]⟩) := bc g2 (by first | with_reducible assumption | go_simp)
  have f2_0_1 : w2.frozen? ⟨w.heap.size, 1, none⟩ = false := bfz g2 (by (try simp) <;> omega) (by first | with_reducible assumption | go_simp)
  clear g2
  go_wp2
  refine bodyPost_ret (v := .tuple #[.agg #[.string p, .string ⟨#[49]⟩], .bool r]) (by simp [results, Tryz.results113, go_sem, *]) rfl ⟨(by first | rfl | rw [hI]), (by repeat (first | exact br _ | assumption | refine ba ?_ | refine bd ?_ | refine below_drewN ?_ _ | refine bs ?_ (by (try simp) <;> omega)))⟩

set_option maxHeartbeats 1000000 in
theorem rread_noint (s p d g : ByteArray) (w : World) (hB : Bw w)
    (hc : ∀ w, Bw w → Calls Tryz.prog 147 #[.string s, .string ⟨#[47]⟩] w fun e w' => e = .returned (.tuple #[.string p, .string d, .bool true]) ∧ Below w.heap.size w w')
    (hv : ∀ w, Calls Tryz.prog 148 #[.string p] w fun e w' => e = .returned (.bool false) ∧ Below w.heap.size w w') :
    Calls Tryz.prog 113 #[.string s] w fun e w' => e = .returned (.tuple #[.agg #[.string p, .string d], .bool false]) ∧ Below w.heap.size w w' := by
  have HC := Lib.hid hc
  have HV := Lib.hid hv
  clear hc hv
  go_enter Tryz.func113, Tryz.ntmps113
  go_wp2_with fail
  refine (HC.out _ (hB.below (by repeat (first | exact br _ | assumption | refine ba ?_ | refine bd ?_ | refine below_drewN ?_ _ | refine bs ?_ (by (try simp) <;> omega))))).mono ?_
  rintro e w1 ⟨rfl, g1⟩
  have hz1 : w.heap.size < w1.heap.size := by have := g1.size; (try simp at this); omega
  have B1 : Below w.heap.size w w1 := bn (by repeat (first | exact br _ | assumption | refine ba ?_ | refine bd ?_ | refine below_drewN ?_ _ | refine bs ?_ (by (try simp) <;> omega))) g1
  have c1_0_0 : w1.cell? ⟨w.heap.size, 0, none⟩ = some (.string ⟨#[]⟩) := bc g1 (by first | with_reducible assumption | go_simp)
  have f1_0_0 : w1.frozen? ⟨w.heap.size, 0, none⟩ = false := bfz g1 (by (try simp) <;> omega) (by first | with_reducible assumption | go_simp)
  have c1_0_1 : w1.cell? ⟨w.heap.size, 1, none⟩ = some (.string ⟨#[]⟩) := bc g1 (by first | with_reducible assumption | go_simp)
  have f1_0_1 : w1.frozen? ⟨w.heap.size, 1, none⟩ = false := bfz g1 (by (try simp) <;> omega) (by first | with_reducible assumption | go_simp)
  clear g1
  go_wp2_with fail
  refine (HV.out _).mono ?_
  rintro e w2 ⟨rfl, g2⟩
  have hz2 : w.heap.size < w2.heap.size := by have := g2.size; (try simp at this); omega
  have B2 : Below w.heap.size w w2 := bn (by repeat (first | exact br _ | assumption | refine ba ?_ | refine bd ?_ | refine below_drewN ?_ _ | refine bs ?_ (by (try simp) <;> omega))) g2
  have c2_0_0 : w2.cell? ⟨w.heap.size, 0, none⟩ = some (.string ⟨#[]⟩) := bc g2 (by first | with_reducible assumption | go_simp)
  have f2_0_0 : w2.frozen? ⟨w.heap.size, 0, none⟩ = false := bfz g2 (by (try simp) <;> omega) (by first | with_reducible assumption | go_simp)
  have c2_0_1 : w2.cell? ⟨w.heap.size, 1, none⟩ = some (.string ⟨#[]⟩) := bc g2 (by first | with_reducible assumption | go_simp)
  have f2_0_1 : w2.frozen? ⟨w.heap.size, 1, none⟩ = false := bfz g2 (by (try simp) <;> omega) (by first | with_reducible assumption | go_simp)
  clear g2
  go_wp2
  refine bodyPost_ret (v := .tuple #[.agg #[.string p, .string d], .bool false]) (by simp [results, Tryz.results113, go_sem, *]) rfl ⟨(by first | rfl | rw [hI]), (by repeat (first | exact br _ | assumption | refine ba ?_ | refine bd ?_ | refine below_drewN ?_ _ | refine bs ?_ (by (try simp) <;> omega)))⟩

set_option maxHeartbeats 1000000 in
theorem rread_zero (s p d g : ByteArray) (w : World) (hB : Bw w)
    (hc : ∀ w, Bw w → Calls Tryz.prog 147 #[.string s, .string ⟨#[47]⟩] w fun e w' => e = .returned (.tuple #[.string p, .string d, .bool true]) ∧ Below w.heap.size w w')
    (hv : ∀ w, Calls Tryz.prog 148 #[.string p] w fun e w' => e = .returned (.bool true) ∧ Below w.heap.size w w')
    (h0 : (p.toList == [48]) = true) :
    Calls Tryz.prog 113 #[.string s] w fun e w' => e = .returned (.tuple #[.agg #[.string p, .string d], .bool false]) ∧ Below w.heap.size w w' := by
  have HC := Lib.hid hc
  have HV := Lib.hid hv
  clear hc hv
  go_enter Tryz.func113, Tryz.ntmps113
  go_wp2_with fail
  refine (HC.out _ (hB.below (by repeat (first | exact br _ | assumption | refine ba ?_ | refine bd ?_ | refine below_drewN ?_ _ | refine bs ?_ (by (try simp) <;> omega))))).mono ?_
  rintro e w1 ⟨rfl, g1⟩
  have hz1 : w.heap.size < w1.heap.size := by have := g1.size; (try simp at this); omega
  have B1 : Below w.heap.size w w1 := bn (by repeat (first | exact br _ | assumption | refine ba ?_ | refine bd ?_ | refine below_drewN ?_ _ | refine bs ?_ (by (try simp) <;> omega))) g1
  have c1_0_0 : w1.cell? ⟨w.heap.size, 0, none⟩ = some (.string ⟨#[]⟩) := bc g1 (by first | with_reducible assumption | go_simp)
  have f1_0_0 : w1.frozen? ⟨w.heap.size, 0, none⟩ = false := bfz g1 (by (try simp) <;> omega) (by first | with_reducible assumption | go_simp)
  have c1_0_1 : w1.cell? ⟨w.heap.size, 1, none⟩ = some (.string ⟨#[]⟩) := bc g1 (by first | with_reducible assumption | go_simp)
  have f1_0_1 : w1.frozen? ⟨w.heap.size, 1, none⟩ = false := bfz g1 (by (try simp) <;> omega) (by first | with_reducible assumption | go_simp)
  clear g1
  go_wp2_with fail
  refine (HV.out _).mono ?_
  rintro e w2 ⟨rfl, g2⟩
  have hz2 : w.heap.size < w2.heap.size := by have := g2.size; (try simp at this); omega
  have B2 : Below w.heap.size w w2 := bn (by repeat (first | exact br _ | assumption | refine ba ?_ | refine bd ?_ | refine below_drewN ?_ _ | refine bs ?_ (by (try simp) <;> omega))) g2
  have c2_0_0 : w2.cell? ⟨w.heap.size, 0, none⟩ = some (.string ⟨#[]⟩) := bc g2 (by first | with_reducible assumption | go_simp)
  have f2_0_0 : w2.frozen? ⟨w.heap.size, 0, none⟩ = false := bfz g2 (by (try simp) <;> omega) (by first | with_reducible assumption | go_simp)
  have c2_0_1 : w2.cell? ⟨w.heap.size, 1, none⟩ = some (.string ⟨#[]⟩) := bc g2 (by first | with_reducible assumption | go_simp)
  have f2_0_1 : w2.frozen? ⟨w.heap.size, 1, none⟩ = false := bfz g2 (by (try simp) <;> omega) (by first | with_reducible assumption | go_simp)
  clear g2
  go_wp2
  refine bodyPost_ret (v := .tuple #[.agg #[.string p, .string d], .bool false]) (by simp [results, Tryz.results113, go_sem, *]) rfl ⟨(by first | rfl | rw [hI]), (by repeat (first | exact br _ | assumption | refine ba ?_ | refine bd ?_ | refine below_drewN ?_ _ | refine bs ?_ (by (try simp) <;> omega)))⟩

set_option maxHeartbeats 1000000 in
theorem rread_nonat (s p d g : ByteArray) (w : World) (hB : Bw w)
    (hc : ∀ w, Bw w → Calls Tryz.prog 147 #[.string s, .string ⟨#[47]⟩] w fun e w' => e = .returned (.tuple #[.string p, .string d, .bool true]) ∧ Below w.heap.size w w')
    (hv : ∀ w, Calls Tryz.prog 148 #[.string p] w fun e w' => e = .returned (.bool true) ∧ Below w.heap.size w w')
    (h0 : (p.toList == [48]) = false)
    (hn : ∀ w, Calls Tryz.prog 149 #[.string d] w fun e w' => e = .returned (.bool false) ∧ w' = w) :
    Calls Tryz.prog 113 #[.string s] w fun e w' => e = .returned (.tuple #[.agg #[.string p, .string d], .bool false]) ∧ Below w.heap.size w w' := by
  have HC := Lib.hid hc
  have HV := Lib.hid hv
  have HN := Lib.hid hn
  clear hn
  clear hc hv
  go_enter Tryz.func113, Tryz.ntmps113
  go_wp2_with fail
  refine (HC.out _ (hB.below (by repeat (first | exact br _ | assumption | refine ba ?_ | refine bd ?_ | refine below_drewN ?_ _ | refine bs ?_ (by (try simp) <;> omega))))).mono ?_
  rintro e w1 ⟨rfl, g1⟩
  have hz1 : w.heap.size < w1.heap.size := by have := g1.size; (try simp at this); omega
  have B1 : Below w.heap.size w w1 := bn (by repeat (first | exact br _ | assumption | refine ba ?_ | refine bd ?_ | refine below_drewN ?_ _ | refine bs ?_ (by (try simp) <;> omega))) g1
  have c1_0_0 : w1.cell? ⟨w.heap.size, 0, none⟩ = some (.string ⟨#[]⟩) := bc g1 (by first | with_reducible assumption | go_simp)
  have f1_0_0 : w1.frozen? ⟨w.heap.size, 0, none⟩ = false := bfz g1 (by (try simp) <;> omega) (by first | with_reducible assumption | go_simp)
  have c1_0_1 : w1.cell? ⟨w.heap.size, 1, none⟩ = some (.string ⟨#[]⟩) := bc g1 (by first | with_reducible assumption | go_simp)
  have f1_0_1 : w1.frozen? ⟨w.heap.size, 1, none⟩ = false := bfz g1 (by (try simp) <;> omega) (by first | with_reducible assumption | go_simp)
  clear g1
  go_wp2_with fail
  refine (HV.out _).mono ?_
  rintro e w2 ⟨rfl, g2⟩
  have hz2 : w.heap.size < w2.heap.size := by have := g2.size; (try simp at this); omega
  have B2 : Below w.heap.size w w2 := bn (by repeat (first | exact br _ | assumption | refine ba ?_ | refine bd ?_ | refine below_drewN ?_ _ | refine bs ?_ (by (try simp) <;> omega))) g2
  have c2_0_0 : w2.cell? ⟨w.heap.size, 0, none⟩ = some (.string ⟨#[]⟩) := bc g2 (by first | with_reducible assumption | go_simp)
  have f2_0_0 : w2.frozen? ⟨w.heap.size, 0, none⟩ = false := bfz g2 (by (try simp) <;> omega) (by first | with_reducible assumption | go_simp)
  have c2_0_1 : w2.cell? ⟨w.heap.size, 1, none⟩ = some (.string ⟨#[]⟩) := bc g2 (by first | with_reducible assumption | go_simp)
  have f2_0_1 : w2.frozen? ⟨w.heap.size, 1, none⟩ = false := bfz g2 (by (try simp) <;> omega) (by first | with_reducible assumption | go_simp)
  clear g2
  go_wp2_with fail
  refine (HN.out _).mono ?_
  rintro e w3 ⟨rfl, rfl⟩
  go_wp2
  refine bodyPost_ret (v := .tuple #[.agg #[.string p, .string d], .bool false]) (by simp [results, Tryz.results113, go_sem, *]) rfl ⟨(by first | rfl | rw [hI]), (by repeat (first | exact br _ | assumption | refine ba ?_ | refine bd ?_ | refine below_drewN ?_ _ | refine bs ?_ (by (try simp) <;> omega)))⟩

set_option maxHeartbeats 1000000 in
theorem rread_den0 (s p d g : ByteArray) (w : World) (hB : Bw w)
    (hc : ∀ w, Bw w → Calls Tryz.prog 147 #[.string s, .string ⟨#[47]⟩] w fun e w' => e = .returned (.tuple #[.string p, .string d, .bool true]) ∧ Below w.heap.size w w')
    (hv : ∀ w, Calls Tryz.prog 148 #[.string p] w fun e w' => e = .returned (.bool true) ∧ Below w.heap.size w w')
    (h0 : (p.toList == [48]) = false)
    (hn : ∀ w, Calls Tryz.prog 149 #[.string d] w fun e w' => e = .returned (.bool true) ∧ w' = w)
    (k0 : (d.toList == [48]) = true) :
    Calls Tryz.prog 113 #[.string s] w fun e w' => e = .returned (.tuple #[.agg #[.string p, .string d], .bool false]) ∧ Below w.heap.size w w' := by
  have HC := Lib.hid hc
  have HV := Lib.hid hv
  have HN := Lib.hid hn
  clear hn
  clear hc hv
  go_enter Tryz.func113, Tryz.ntmps113
  go_wp2_with fail
  refine (HC.out _ (hB.below (by repeat (first | exact br _ | assumption | refine ba ?_ | refine bd ?_ | refine below_drewN ?_ _ | refine bs ?_ (by (try simp) <;> omega))))).mono ?_
  rintro e w1 ⟨rfl, g1⟩
  have hz1 : w.heap.size < w1.heap.size := by have := g1.size; (try simp at this); omega
  have B1 : Below w.heap.size w w1 := bn (by repeat (first | exact br _ | assumption | refine ba ?_ | refine bd ?_ | refine below_drewN ?_ _ | refine bs ?_ (by (try simp) <;> omega))) g1
  have c1_0_0 : w1.cell? ⟨w.heap.size, 0, none⟩ = some (.string ⟨#[]⟩) := bc g1 (by first | with_reducible assumption | go_simp)
  have f1_0_0 : w1.frozen? ⟨w.heap.size, 0, none⟩ = false := bfz g1 (by (try simp) <;> omega) (by first | with_reducible assumption | go_simp)
  have c1_0_1 : w1.cell? ⟨w.heap.size, 1, none⟩ = some (.string ⟨#[]⟩) := bc g1 (by first | with_reducible assumption | go_simp)
  have f1_0_1 : w1.frozen? ⟨w.heap.size, 1, none⟩ = false := bfz g1 (by (try simp) <;> omega) (by first | with_reducible assumption | go_simp)
  clear g1
  go_wp2_with fail
  refine (HV.out _).mono ?_
  rintro e w2 ⟨rfl, g2⟩
  have hz2 : w.heap.size < w2.heap.size := by have := g2.size; (try simp at this); omega
  have B2 : Below w.heap.size w w2 := bn (by repeat (first | exact br _ | assumption | refine ba ?_ | refine bd ?_ | refine below_drewN ?_ _ | refine bs ?_ (by (try simp) <;> omega))) g2
  have c2_0_0 : w2.cell? ⟨w.heap.size, 0, none⟩ = some (.string ⟨#[]⟩) := bc g2 (by first | with_reducible assumption | go_simp)
  have f2_0_0 : w2.frozen? ⟨w.heap.size, 0, none⟩ = false := bfz g2 (by (try simp) <;> omega) (by first | with_reducible assumption | go_simp)
  have c2_0_1 : w2.cell? ⟨w.heap.size, 1, none⟩ = some (.string ⟨#[]⟩) := bc g2 (by first | with_reducible assumption | go_simp)
  have f2_0_1 : w2.frozen? ⟨w.heap.size, 1, none⟩ = false := bfz g2 (by (try simp) <;> omega) (by first | with_reducible assumption | go_simp)
  clear g2
  go_wp2_with fail
  refine (HN.out _).mono ?_
  rintro e w3 ⟨rfl, rfl⟩
  go_wp2
  refine bodyPost_ret (v := .tuple #[.agg #[.string p, .string d], .bool false]) (by simp [results, Tryz.results113, go_sem, *]) rfl ⟨(by first | rfl | rw [hI]), (by repeat (first | exact br _ | assumption | refine ba ?_ | refine bd ?_ | refine below_drewN ?_ _ | refine bs ?_ (by (try simp) <;> omega)))⟩

set_option maxHeartbeats 1000000 in
theorem rread_den1 (s p d g : ByteArray) (w : World) (hB : Bw w)
    (hc : ∀ w, Bw w → Calls Tryz.prog 147 #[.string s, .string ⟨#[47]⟩] w fun e w' => e = .returned (.tuple #[.string p, .string d, .bool true]) ∧ Below w.heap.size w w')
    (hv : ∀ w, Calls Tryz.prog 148 #[.string p] w fun e w' => e = .returned (.bool true) ∧ Below w.heap.size w w')
    (h0 : (p.toList == [48]) = false)
    (hn : ∀ w, Calls Tryz.prog 149 #[.string d] w fun e w' => e = .returned (.bool true) ∧ w' = w)
    (k0 : (d.toList == [48]) = false)
    (k1 : (d.toList == [49]) = true) :
    Calls Tryz.prog 113 #[.string s] w fun e w' => e = .returned (.tuple #[.agg #[.string p, .string d], .bool false]) ∧ Below w.heap.size w w' := by
  have HC := Lib.hid hc
  have HV := Lib.hid hv
  have HN := Lib.hid hn
  clear hn
  clear hc hv
  go_enter Tryz.func113, Tryz.ntmps113
  go_wp2_with fail
  refine (HC.out _ (hB.below (by repeat (first | exact br _ | assumption | refine ba ?_ | refine bd ?_ | refine below_drewN ?_ _ | refine bs ?_ (by (try simp) <;> omega))))).mono ?_
  rintro e w1 ⟨rfl, g1⟩
  have hz1 : w.heap.size < w1.heap.size := by have := g1.size; (try simp at this); omega
  have B1 : Below w.heap.size w w1 := bn (by repeat (first | exact br _ | assumption | refine ba ?_ | refine bd ?_ | refine below_drewN ?_ _ | refine bs ?_ (by (try simp) <;> omega))) g1
  have c1_0_0 : w1.cell? ⟨w.heap.size, 0, none⟩ = some (.string ⟨#[]⟩) := bc g1 (by first | with_reducible assumption | go_simp)
  have f1_0_0 : w1.frozen? ⟨w.heap.size, 0, none⟩ = false := bfz g1 (by (try simp) <;> omega) (by first | with_reducible assumption | go_simp)
  have c1_0_1 : w1.cell? ⟨w.heap.size, 1, none⟩ = some (.string ⟨#[]⟩) := bc g1 (by first | with_reducible assumption | go_simp)
  have f1_0_1 : w1.frozen? ⟨w.heap.size, 1, none⟩ = false := bfz g1 (by (try simp) <;> omega) (by first | with_reducible assumption | go_simp)
  clear g1
  go_wp2_with fail
  refine (HV.out _).mono ?_
  rintro e w2 ⟨rfl, g2⟩
  have hz2 : w.heap.size < w2.heap.size := by have := g2.size; (try simp at this); omega
  have B2 : Below w.heap.size w w2 := bn (by repeat (first | exact br _ | assumption | refine ba ?_ | refine bd ?_ | refine below_drewN ?_ _ | refine bs ?_ (by (try simp) <;> omega))) g2
  have c2_0_0 : w2.cell? ⟨w.heap.size, 0, none⟩ = some (.string ⟨#[]⟩) := bc g2 (by first | with_reducible assumption | go_simp)
  have f2_0_0 : w2.frozen? ⟨w.heap.size, 0, none⟩ = false := bfz g2 (by (try simp) <;> omega) (by first | with_reducible assumption | go_simp)
  have c2_0_1 : w2.cell? ⟨w.heap.size, 1, none⟩ = some (.string ⟨#[]⟩) := bc g2 (by first | with_reducible assumption | go_simp)
  have f2_0_1 : w2.frozen? ⟨w.heap.size, 1, none⟩ = false := bfz g2 (by (try simp) <;> omega) (by first | with_reducible assumption | go_simp)
  clear g2
  go_wp2_with fail
  refine (HN.out _).mono ?_
  rintro e w3 ⟨rfl, rfl⟩
  go_wp2
  refine bodyPost_ret (v := .tuple #[.agg #[.string p, .string d], .bool false]) (by simp [results, Tryz.results113, go_sem, *]) rfl ⟨(by first | rfl | rw [hI]), (by repeat (first | exact br _ | assumption | refine ba ?_ | refine bd ?_ | refine below_drewN ?_ _ | refine bs ?_ (by (try simp) <;> omega)))⟩

set_option maxHeartbeats 1000000 in
theorem rread_frac (s p d g : ByteArray) (w : World) (hB : Bw w)
    (hc : ∀ w, Bw w → Calls Tryz.prog 147 #[.string s, .string ⟨#[47]⟩] w fun e w' => e = .returned (.tuple #[.string p, .string d, .bool true]) ∧ Below w.heap.size w w')
    (hv : ∀ w, Calls Tryz.prog 148 #[.string p] w fun e w' => e = .returned (.bool true) ∧ Below w.heap.size w w')
    (h0 : (p.toList == [48]) = false)
    (hn : ∀ w, Calls Tryz.prog 149 #[.string d] w fun e w' => e = .returned (.bool true) ∧ w' = w)
    (k0 : (d.toList == [48]) = false)
    (k1 : (d.toList == [49]) = false)
    (hg : ∀ w, Bw w → Calls Tryz.prog 150 #[.string p, .string d] w fun e w' => e = .returned (.string g) ∧ Below w.heap.size w w') :
    Calls Tryz.prog 113 #[.string s] w fun e w' => e = .returned (.tuple #[.agg #[.string p, .string d], .bool (g.toList == [49])]) ∧ Below w.heap.size w w' := by
  have HC := Lib.hid hc
  have HV := Lib.hid hv
  have HN := Lib.hid hn
  clear hn
  have HG := Lib.hid hg
  clear hg
  clear hc hv
  go_enter Tryz.func113, Tryz.ntmps113
  go_wp2_with fail
  refine (HC.out _ (hB.below (by repeat (first | exact br _ | assumption | refine ba ?_ | refine bd ?_ | refine below_drewN ?_ _ | refine bs ?_ (by (try simp) <;> omega))))).mono ?_
  rintro e w1 ⟨rfl, g1⟩
  have hz1 : w.heap.size < w1.heap.size := by have := g1.size; (try simp at this); omega
  have B1 : Below w.heap.size w w1 := bn (by repeat (first | exact br _ | assumption | refine ba ?_ | refine bd ?_ | refine below_drewN ?_ _ | refine bs ?_ (by (try simp) <;> omega))) g1
  have c1_0_0 : w1.cell? ⟨w.heap.size, 0, none⟩ = some (.string ⟨#[]⟩) := bc g1 (by first | with_reducible assumption | go_simp)
  have f1_0_0 : w1.frozen? ⟨w.heap.size, 0, none⟩ = false := bfz g1 (by (try simp) <;> omega) (by first | with_reducible assumption | go_simp)
  have c1_0_1 : w1.cell? ⟨w.heap.size, 1, none⟩ = some (.string ⟨#[]⟩) := bc g1 (by first | with_reducible assumption | go_simp)
  have f1_0_1 : w1.frozen? ⟨w.heap.size, 1, none⟩ = false := bfz g1 (by (try simp) <;> omega) (by first | with_reducible assumption | go_simp)
  clear g1
  go_wp2_with fail
  refine (HV.out _).mono ?_
  rintro e w2 ⟨rfl, g2⟩
  have hz2 : w.heap.size < w2.heap.size := by have := g2.size; (try simp at this); omega
  have B2 : Below w.heap.size w w2 := bn (by repeat (first | exact br _ | assumption | refine ba ?_ | refine bd ?_ | refine below_drewN ?_ _ | refine bs ?_ (by (try simp) <;> omega))) g2
  have c2_0_0 : w2.cell? ⟨w.heap.size, 0, none⟩ = some (.string ⟨#[]⟩) := bc g2 (by first | with_reducible assumption | go_simp)
  have f2_0_0 : w2.frozen? ⟨w.heap.size, 0, none⟩ = false := bfz g2 (by (try simp) <;> omega) (by first | with_reducible assumption | go_simp)
  have c2_0_1 : w2.cell? ⟨w.heap.size, 1, none⟩ = some (.string ⟨#[]⟩) := bc g2 (by first | with_reducible assumption | go_simp)
  have f2_0_1 : w2.frozen? ⟨w.heap.size, 1, none⟩ = false := bfz g2 (by (try simp) <;> omega) (by first | with_reducible assumption | go_simp)
  clear g2
  go_wp2_with fail
  refine (HN.out _).mono ?_
  rintro e w3 ⟨rfl, rfl⟩
  go_wp2_with fail
  refine (HG.out _ (hB.below (by repeat (first | exact br _ | assumption | refine ba ?_ | refine bd ?_ | refine below_drewN ?_ _ | refine bs ?_ (by (try simp) <;> omega))))).mono ?_
  rintro e w4 ⟨rfl, g4⟩
  have hz4 : w.heap.size < w4.heap.size := by have := g4.size; (try simp at this); omega
  have B4 : Below w.heap.size w w4 := bn (by repeat (first | exact br _ | assumption | refine ba ?_ | refine bd ?_ | refine below_drewN ?_ _ | refine bs ?_ (by (try simp) <;> omega))) g4
  have c4_0_0 : w4.cell? ⟨w.heap.size, 0, none⟩ = some (.string ⟨#[]⟩) := bc g4 (by first | with_reducible assumption | go_simp)
  have f4_0_0 : w4.frozen? ⟨w.heap.size, 0, none⟩ = false := bfz g4 (by (try simp) <;> omega) (by first | with_reducible assumption | go_simp)
  have c4_0_1 : w4.cell? ⟨w.heap.size, 1, none⟩ = some (.string ⟨#[]⟩) := bc g4 (by first | with_reducible assumption | go_simp)
  have f4_0_1 : w4.frozen? ⟨w.heap.size, 1, none⟩ = false := bfz g4 (by (try simp) <;> omega) (by first | with_reducible assumption | go_simp)
  clear g4
  go_wp2
  refine bodyPost_ret (v := .tuple #[.agg #[.string p, .string d], .bool (g.toList == [49])]) (by simp [results, Tryz.results113, go_sem, *]) rfl ⟨(by first | rfl | rw [hI]), (by repeat (first | exact br _ | assumption | refine ba ?_ | refine bd ?_ | refine below_drewN ?_ _ | refine bs ?_ (by (try simp) <;> omega)))⟩

theorem mk_toList (l : List UInt8) : (⟨l.toArray⟩ : ByteArray).data.toList = l := by simp
theorem mk_toList2 (l : List UInt8) : (⟨l.toArray⟩ : ByteArray).toList = l := by rw [ByteArray.toList_eq]
theorem mk_size (l : List UInt8) : (⟨l.toArray⟩ : ByteArray).size = l.length := by rw [← toList_length, mk_toList]
theorem natValid_mk (l : List UInt8) (h : l.length ≤ 100000000) (w : World) :
    Calls Tryz.prog 149 #[.string ⟨l.toArray⟩] w fun e w' => e = .returned (.bool (isNat l)) ∧ w' = w := by
  have := valid_walk ⟨l.toArray⟩ (by rw [mk_size]; omega) w
  rwa [mk_toList] at this
theorem intValid_mk (l : List UInt8) (h : l.length ≤ 100000000) (w : World) :
    Calls Tryz.prog 148 #[.string ⟨l.toArray⟩] w fun e w' => e = .returned (.bool (isIntL l)) ∧ Below w.heap.size w w' := by
  have := iValid_walk ⟨l.toArray⟩ (by rw [mk_size]; omega) w
  unfold isIntB at this
  rwa [mk_toList] at this

/-- read, at any text: its second result says whether the text is a number. -/
theorem rread_any (s : ByteArray) (hs : s.size ≤ 40000000) (w : World) (hB : Bw w) :
    Calls Tryz.prog 113 #[.string s] w fun e w' => (∃ p d, e = .returned (.tuple #[.agg #[.string ⟨p⟩, .string ⟨d⟩], .bool (isRat s)]) ∧ (isRat s = true → .agg #[.string ⟨p⟩, .string ⟨d⟩] = FV (ratOfL s.data.toList))) ∧ Below w.heap.size w w' := by
  have hc := fun w hB => rcut_walk s (by omega) w hB
  have hl : s.data.toList.length ≤ 40000000 := by rw [toList_length]; exact hs
  unfold isRat isRatL ratOfL
  rcases cut_cases s.data.toList with ⟨h1, e⟩ | ⟨p, r, hp, hl2, e⟩
  · rw [e] at hc ⊢
    simp only [Bool.false_eq_true, if_false]
    refine (rread_whole s _ _ _ w hB hc (fun w => intValid_mk s.data.toList (by omega) w)).mono ?_
    rintro e' w' ⟨rfl, hb⟩
    refine ⟨⟨_, _, rfl, fun hi => ?_⟩, hb⟩
    rw [FV_eq]
    simp only [Rat.num_intCast, Rat.den_intCast, dec_one]
    rw [itx, itoa_intOfL hi]
  · rw [e] at hc ⊢
    simp only [if_true]
    have hlp : p.length ≤ 40000000 ∧ r.length ≤ 40000000 := by
      rw [hl2, List.length_append, List.length_cons] at hl
      omega
    clear hl2 hl
    have hvp := intValid_mk p (by omega)
    have hvr := natValid_mk r (by omega)
    unfold isFracL
    cases hi : isIntL p
    · rw [hi] at hvp
      refine (rread_noint s _ _ ⟨#[]⟩ w hB hc hvp).mono ?_
      rintro e' w' ⟨rfl, hb⟩
      exact ⟨⟨_, _, rfl, fun hf => by simp at hf⟩, hb⟩
    rw [hi] at hvp
    cases h0 : p == [48]
    case' true =>
      refine (rread_zero s _ _ ⟨#[]⟩ w hB hc hvp (by rw [mk_toList2]; exact h0)).mono ?_
      rintro e' w' ⟨rfl, hb⟩
      have : (p != [48]) = false := by unfold bne; rw [h0]; rfl
      rw [this]
      exact ⟨⟨_, _, rfl, fun hf => by simp at hf⟩, hb⟩
    have h0' : (p != [48]) = true := by unfold bne; rw [h0]; rfl
    rw [h0']
    cases hn : isNat r
    · rw [hn] at hvr
      refine (rread_nonat s _ _ ⟨#[]⟩ w hB hc hvp (by rw [mk_toList2]; exact h0) hvr).mono ?_
      rintro e' w' ⟨rfl, hb⟩
      exact ⟨⟨_, _, rfl, fun hf => by simp at hf⟩, hb⟩
    rw [hn] at hvr
    cases k0 : r == [48]
    case' true =>
      refine (rread_den0 s _ _ ⟨#[]⟩ w hB hc hvp (by rw [mk_toList2]; exact h0) hvr (by rw [mk_toList2]; exact k0)).mono ?_
      rintro e' w' ⟨rfl, hb⟩
      have : (r != [48]) = false := by unfold bne; rw [k0]; rfl
      rw [this]
      exact ⟨⟨_, _, rfl, fun hf => by simp at hf⟩, hb⟩
    have k0' : (r != [48]) = true := by unfold bne; rw [k0]; rfl
    rw [k0']
    cases k1 : r == [49]
    case' true =>
      refine (rread_den1 s _ _ ⟨#[]⟩ w hB hc hvp (by rw [mk_toList2]; exact h0) hvr (by rw [mk_toList2]; exact k0) (by rw [mk_toList2]; exact k1)).mono ?_
      rintro e' w' ⟨rfl, hb⟩
      have : (r != [49]) = false := by unfold bne; rw [k1]; rfl
      rw [this]
      exact ⟨⟨_, _, rfl, fun hf => by simp at hf⟩, hb⟩
    have k1' : (r != [49]) = true := by unfold bne; rw [k1]; rfl
    rw [k1']
    have ep : (⟨p.toArray⟩ : ByteArray) = itx (intOfL p) := by rw [itx, itoa_intOfL hi]
    have er : (⟨r.toArray⟩ : ByteArray) = dec (natOf r) := by rw [dec, decDigits_natOf hn]
    have d1 : dg (intOfL p).natAbs ≤ 40000000 := by
      have := dg_sgn (intOfL p)
      rw [← ep, mk_size] at this
      omega
    have d2 : dg (natOf r) ≤ 40000000 := by
      rw [← dg_def, ← er, mk_size]; omega
    refine (rread_frac s _ _ (dec (Nat.gcd (intOfL p).natAbs (natOf r))) w hB hc hvp (by rw [mk_toList2]; exact h0) hvr (by rw [mk_toList2]; exact k0) (by rw [mk_toList2]; exact k1) (fun w hB => by rw [ep, er]; exact divisor_walk _ _ (by omega) (by omega) w hB)).mono ?_
    rintro e' w' ⟨rfl, hb⟩
    rw [dec_ne1]
    refine ⟨⟨_, _, rfl, fun hf => ?_⟩, hb⟩
    simp at hf
    have hd0 : natOf r ≠ 0 := fun e0 => by
      rw [← decDigits_natOf hn, e0, decDigits_small (by omega)] at k0
      exact absurd k0 (by decide)
    show Value.agg #[.string ⟨p.toArray⟩, .string ⟨r.toArray⟩] = _
    rw [FV_mk _ _ hd0, hf, ep, er]
    simp
end Go.Proofs.YtbnbaokamccmjaaGreatDoor
