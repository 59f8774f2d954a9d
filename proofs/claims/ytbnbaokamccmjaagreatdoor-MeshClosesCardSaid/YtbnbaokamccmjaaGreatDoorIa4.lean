/- integer: read, both, one. -/
import Derived.Test.YtbnbaokamccmjaaGreatDoorIa3
set_option linter.unusedVariables false
set_option linter.unusedSimpArgs false
namespace Go.Proofs.YtbnbaokamccmjaaGreatDoor
open Go Go.RowKit

theorem neq_number (b c : Bool) (s t : ByteArray) : ∀ w, (binOp .neq 167 (.agg #[.bool b, .string s]) (.agg #[.bool c, .string t])).run Tryz.prog w = .ok (.bool (!(b == c && s.toList == t.toList))) w := by
  intro w
  go_simp
  by_cases h1 : b = c <;> by_cases h2 : s.toList = t.toList <;> simp [h1, h2]

set_option maxHeartbeats 1000000 in
theorem iread_no (s : ByteArray) (hs : s.size ≤ 1000000000) (hv : isNat (Lib.trimPrefix s.data.toList [45]) = false) (w : World) :
    Calls Tryz.prog 155 #[.string s] w fun e w' => e = .returned (.tuple #[.agg #[.bool (Lib.hasPrefix s.data.toList [45]), .string ⟨(Lib.trimPrefix s.data.toList [45]).toArray⟩], .bool false]) ∧ Below w.heap.size w w' := by
  have HCP := Lib.hid (fun w => Tryz.strings_CutPrefix s ⟨#[45]⟩ w)
  have hl : (Lib.trimPrefix s.data.toList [45]).length ≤ s.size := by
    rw [← toList_length]
    unfold Lib.trimPrefix
    split
    · rw [List.length_drop]; omega
    · exact Nat.le_refl _
  have HV := Lib.hid (fun w => valid_walk ⟨(Lib.trimPrefix s.data.toList [45]).toArray⟩ (by rw [← toList_length]; simp; omega) w)
  rw [show (⟨(Lib.trimPrefix s.data.toList [45]).toArray⟩ : ByteArray).data.toList = Lib.trimPrefix s.data.toList [45] from by simp, hv] at HV
  rw [show (⟨#[45]⟩ : ByteArray).data.toList = [45] from rfl] at HCP
  generalize (⟨(Lib.trimPrefix s.data.toList [45]).toArray⟩ : ByteArray) = d at *
  generalize Lib.hasPrefix s.data.toList [45] = b at *
  clear hl hv hs
  have hneq := neq_number
  go_enter Tryz.func155, Tryz.ntmps155
  go_wp2_with (go_at_call 174; refine (HCP.out _).mono ?_; rintro e w' ⟨rfl, rfl⟩)
  refine wp_region_held_drew (S := fun w' => w'.cell? ⟨w.heap.size + 1, 0, none⟩ = some (.bool b) ∧ w'.cell? ⟨w.heap.size + 1, 1, none⟩ = some (.string d)) (by kernel_rfl) ?_ (fun hHeld => ?_)
  · refine ⟨?_, ?_⟩ <;> (go_simp; done)
  refine wpAnyH_take (i := 0) (v := .agg #[.bool b, .string d]) rfl (by kernel_rfl) (by kernel_rfl) (by kernel_rfl) (fun _ _ _ h => h) (Or.inl ⟨rfl, fun w' hS => ?_⟩) hHeld ?_
  · obtain ⟨h0, h1⟩ := hS; go_simp
  try simp only [Act.put, List.setIfInBounds_toArray, List.set_cons_zero, List.set_cons_succ, List.getElem_toArray, List.getElem_cons_succ, List.getElem_cons_zero]
  refine wpAnyH_take (i := 1) (v := .string d) rfl (by kernel_rfl) (by kernel_rfl) (by kernel_rfl) (fun _ _ _ h => h) (Or.inl ⟨rfl, fun w' hS => ?_⟩) hHeld ?_
  · obtain ⟨h0, h1⟩ := hS; go_simp
  try simp only [Act.put, List.setIfInBounds_toArray, List.set_cons_zero, List.set_cons_succ, List.getElem_toArray, List.getElem_cons_succ, List.getElem_cons_zero]
  refine wpAnyH_ready (rs := [2]) (by kernel_rfl) (by simp) ?_
  refine AllReadyH.cons rfl (fun K hK => ?_) AllReadyH.nil
  rw [if_pos (by rfl)]
  go_wp2_with fail
  refine (HV.out _).mono ?_
  rintro e w' ⟨rfl, rfl⟩
  refine hK.out _ _ hHeld (fun hHeld => ?_)
  clear hK K
  try simp only [Act.put, List.setIfInBounds_toArray, List.set_cons_zero, List.set_cons_succ, List.getElem_toArray, List.getElem_cons_succ, List.getElem_cons_zero]
  refine wpAnyH_take (i := 3) (v := .bool false) rfl (by kernel_rfl) (by kernel_rfl) (by kernel_rfl) (fun _ _ _ h => h) (Or.inl ⟨rfl, fun w' hS => ?_⟩) hHeld ?_
  · obtain ⟨h0, h1⟩ := hS; go_simp
  try simp only [Act.put, List.setIfInBounds_toArray, List.set_cons_zero, List.set_cons_succ, List.getElem_toArray, List.getElem_cons_succ, List.getElem_cons_zero]
  refine wpAnyH_take (i := 4) (v := undef) rfl (by kernel_rfl) (by kernel_rfl) (by kernel_rfl) (fun _ _ _ h => h) (Or.inr ⟨rfl, rfl⟩) hHeld ?_
  try simp only [Act.put, List.setIfInBounds_toArray, List.set_cons_zero, List.set_cons_succ, List.getElem_toArray, List.getElem_cons_succ, List.getElem_cons_zero]
  refine wpAnyH_take (i := 5) (v := undef) rfl (by kernel_rfl) (by kernel_rfl) (by kernel_rfl) (fun _ _ _ h => h) (Or.inr ⟨rfl, rfl⟩) hHeld ?_
  try simp only [Act.put, List.setIfInBounds_toArray, List.set_cons_zero, List.set_cons_succ, List.getElem_toArray, List.getElem_cons_succ, List.getElem_cons_zero]
  refine wpAnyH_take (i := 6) (v := undef) rfl (by kernel_rfl) (by kernel_rfl) (by kernel_rfl) (fun _ _ _ h => h) (Or.inr ⟨rfl, rfl⟩) hHeld ?_
  try simp only [Act.put, List.setIfInBounds_toArray, List.set_cons_zero, List.set_cons_succ, List.getElem_toArray, List.getElem_cons_succ, List.getElem_cons_zero]
  refine wpAnyH_take (i := 7) (v := .bool false) rfl (by kernel_rfl) (by kernel_rfl) (by kernel_rfl) (fun _ _ _ h => h) (Or.inl ⟨rfl, fun w' hS => ?_⟩) hHeld ?_
  · obtain ⟨h0, h1⟩ := hS; go_simp
  try simp only [Act.put, List.setIfInBounds_toArray, List.set_cons_zero, List.set_cons_succ, List.getElem_toArray, List.getElem_cons_succ, List.getElem_cons_zero]
  refine wpAnyH_ready (rs := [8]) (by kernel_rfl) (by simp) ?_
  refine AllReadyH.cons rfl (fun K hK => ?_) AllReadyH.nil
  rw [if_pos (by rfl)]
  go_simp
  refine hK.out _ _ (by refine ⟨?_, ?_⟩ <;> (go_simp; done)) (fun hHeld => ?_)
  clear hK K
  try simp only [Act.put, List.setIfInBounds_toArray, List.set_cons_zero, List.set_cons_succ, List.getElem_toArray, List.getElem_cons_succ, List.getElem_cons_zero]
  refine wpAnyH_take (i := 9) (v := .bool false) rfl (by kernel_rfl) (by kernel_rfl) (by kernel_rfl) (fun _ _ _ h => h) (Or.inl ⟨rfl, fun w' hS => ?_⟩) hHeld ?_
  · obtain ⟨h0, h1⟩ := hS; go_simp
  try simp only [Act.put, List.setIfInBounds_toArray, List.set_cons_zero, List.set_cons_succ, List.getElem_toArray, List.getElem_cons_succ, List.getElem_cons_zero]
  refine wpAnyH_done (by kernel_rfl) ?_ _
  go_wp2
  refine bodyPost_ret (v := .tuple #[.agg #[.bool b, .string d], .bool false]) (by simp [results, Tryz.results155, go_sem, *]) rfl ⟨(by first | rfl | rw [hI]), (by repeat (first | exact br _ | assumption | refine ba ?_ | refine bd ?_ | refine below_drewN ?_ _ | refine bs ?_ (by (try simp) <;> omega)))⟩

set_option maxHeartbeats 1000000 in
theorem iread_nat (s : ByteArray) (hs : s.size ≤ 1000000000) (hv : isNat (Lib.trimPrefix s.data.toList [45]) = true) (w : World) :
    Calls Tryz.prog 155 #[.string s] w fun e w' => e = .returned (.tuple #[.agg #[.bool (Lib.hasPrefix s.data.toList [45]), .string ⟨(Lib.trimPrefix s.data.toList [45]).toArray⟩], .bool (!(Lib.hasPrefix s.data.toList [45] && Lib.trimPrefix s.data.toList [45] == [48]))]) ∧ Below w.heap.size w w' := by
  have HCP := Lib.hid (fun w => Tryz.strings_CutPrefix s ⟨#[45]⟩ w)
  have hl : (Lib.trimPrefix s.data.toList [45]).length ≤ s.size := by
    rw [← toList_length]
    unfold Lib.trimPrefix
    split
    · rw [List.length_drop]; omega
    · exact Nat.le_refl _
  have HV := Lib.hid (fun w => valid_walk ⟨(Lib.trimPrefix s.data.toList [45]).toArray⟩ (by rw [← toList_length]; simp; omega) w)
  rw [show (⟨(Lib.trimPrefix s.data.toList [45]).toArray⟩ : ByteArray).data.toList = Lib.trimPrefix s.data.toList [45] from by simp, hv] at HV
  rw [show (⟨#[45]⟩ : ByteArray).data.toList = [45] from rfl] at HCP
  have hq : (Lib.trimPrefix s.data.toList [45] == [48]) = ((⟨(Lib.trimPrefix s.data.toList [45]).toArray⟩ : ByteArray).toList == [48]) := by rw [ByteArray.toList_eq]
  rw [hq]
  clear hq
  generalize (⟨(Lib.trimPrefix s.data.toList [45]).toArray⟩ : ByteArray) = d at *
  generalize Lib.hasPrefix s.data.toList [45] = b at *
  clear hl hv hs
  have hneq := neq_number
  go_enter Tryz.func155, Tryz.ntmps155
  go_wp2_with (go_at_call 174; refine (HCP.out _).mono ?_; rintro e w' ⟨rfl, rfl⟩)
  go_region_held3 (fun w' => w'.cell? ⟨w.heap.size + 1, 0, none⟩ = some (.bool b) ∧ w'.cell? ⟨w.heap.size + 1, 1, none⟩ = some (.string d))
    (refine ⟨?_, ?_⟩ <;> (go_simp; done))
    (first | (go_at_call 149; refine (HV.out _).mono ?_; rintro e w' ⟨rfl, rfl⟩))
  clear hneq
  go_wp2
  have hI : (!(b && d.toList == [48])) = (!b || !d.toList == [48]) := Bool.not_and _ _
  refine bodyPost_ret (v := .tuple #[.agg #[.bool b, .string d], .bool (!b || !d.toList == [48])]) (by simp [results, Tryz.results155, go_sem, *]) rfl ⟨(by first | rfl | rw [hI]), (by repeat (first | exact br _ | assumption | refine ba ?_ | refine bd ?_ | refine below_drewN ?_ _ | refine bs ?_ (by (try simp) <;> omega)))⟩

theorem iread_itx (z : Int) (hz : (itx z).size ≤ 1000000000) (w : World) :
    Calls Tryz.prog 155 #[.string (itx z)] w fun e w' => e = .returned (.tuple #[IV z, .bool true]) ∧ Below w.heap.size w w' := by
  have h := iread_nat (itx z) hz (by rw [itx_toList, trimPre_itoa, isNat_decDigits]) w
  rw [itx_toList, trimPre_itoa, hasPre_itoa, decDigits_eq_zero] at h
  have e : (!(decide (z < 0) && decide (z.natAbs = 0))) = true := by
    by_cases h : z < 0
    · have : ¬ z.natAbs = 0 := by omega
      simp [h, this]
    · simp [h]
  rw [e] at h
  exact h
theorem iread_any (s : ByteArray) (hs : s.size ≤ 1000000000) (w : World) :
    Calls Tryz.prog 155 #[.string s] w fun e w' => e = .returned (.tuple #[.agg #[.bool (Lib.hasPrefix s.data.toList [45]), .string ⟨(Lib.trimPrefix s.data.toList [45]).toArray⟩], .bool (isIntB s)]) ∧ Below w.heap.size w w' := by
  cases hv : isNat (Lib.trimPrefix s.data.toList [45]) with
  | false =>
    have h := iread_no s hs hv w
    rwa [show isIntB s = false from by unfold isIntB isIntL; rw [hv]; rfl]
  | true =>
    have h := iread_nat s hs hv w
    rwa [show isIntB s = (!(Lib.hasPrefix s.data.toList [45] && Lib.trimPrefix s.data.toList [45] == [48])) from by unfold isIntB isIntL; rw [hv, Bool.true_and]]

set_option maxHeartbeats 1000000 in
theorem iValid_walk (s : ByteArray) (hs : s.size ≤ 1000000000) (w : World) :
    Calls Tryz.prog 148 #[.string s] w fun e w' => e = .returned (.bool (isIntB s)) ∧ Below w.heap.size w w' := by
  have H := Lib.hid (fun w => iread_any s hs w)
  clear hs
  generalize isIntB s = r at *
  generalize Lib.hasPrefix s.data.toList [45] = b at *
  generalize (⟨(Lib.trimPrefix s.data.toList [45]).toArray⟩ : ByteArray) = d at *
  go_enter Tryz.func148, Tryz.ntmps148
  go_wp2_with fail
  refine (H.out _).mono ?_
  rintro e w1 ⟨rfl, g1⟩
  have B1 : Below w.heap.size w w1 := bn (by repeat (first | exact br _ | assumption | refine ba ?_ | refine bd ?_ | refine below_drewN ?_ _ | refine bs ?_ (by (try simp) <;> omega))) g1
  clear g1
  go_wp2
  go_ret
  exact ⟨rfl, (by repeat (first | exact br _ | assumption | refine ba ?_ | refine bd ?_ | refine below_drewN ?_ _ | refine bs ?_ (by (try simp) <;> omega)))⟩

theorem IV_shape (z : Int) : ∃ c d, IV z = .agg #[.bool c, .string d] := ⟨_, _, rfl⟩
set_option maxHeartbeats 1000000 in
theorem iboth_walk (x y : Int) (hx : (itx x).size ≤ 1000000000) (hy : (itx y).size ≤ 1000000000) (w : World) :
    Calls Tryz.prog 126 #[.string (itx x), .string (itx y)] w fun e w' => e = .returned (.tuple #[IV x, IV y, .int .i64 0]) ∧ Below w.heap.size w w' := by
  have H1 := Lib.hid (fun w => iread_itx x hx w)
  have H2 := Lib.hid (fun w => iread_itx y hy w)
  clear hx hy
  generalize itx x = s at *
  generalize itx y = t at *
  obtain ⟨b1, d1, e1⟩ := IV_shape x
  obtain ⟨b2, d2, e2⟩ := IV_shape y
  rw [e1] at H1 ⊢
  rw [e2] at H2 ⊢
  clear e1 e2
  go_enter Tryz.func126, Tryz.ntmps126
  go_wp2_with fail
  refine (H1.out _).mono ?_
  rintro e w1 ⟨rfl, g1⟩
  have hz1 : w.heap.size + 1 < w1.heap.size := by have := g1.size; (try simp at this); omega
  have hz1_0 : w.heap.size < w1.heap.size := by omega
  have B1 : Below w.heap.size w w1 := bn (by repeat (first | exact br _ | assumption | refine ba ?_ | refine bd ?_ | refine below_drewN ?_ _ | refine bs ?_ (by (try simp) <;> omega))) g1
  have c1_0_0 : w1.cell? ⟨w.heap.size, 0, none⟩ = some (.bool false) := bc g1 (by first | with_reducible assumption | go_simp)
  have f1_0_0 : w1.frozen? ⟨w.heap.size, 0, none⟩ = false := bfz g1 (by (try simp) <;> omega) (by first | with_reducible assumption | go_simp)
  have c1_0_1 : w1.cell? ⟨w.heap.size, 1, none⟩ = some (.string ⟨#[]⟩) := bc g1 (by first | with_reducible assumption | go_simp)
  have f1_0_1 : w1.frozen? ⟨w.heap.size, 1, none⟩ = false := bfz g1 (by (try simp) <;> omega) (by first | with_reducible assumption | go_simp)
  have c1_1_0 : w1.cell? ⟨w.heap.size + 1, 0, none⟩ = some (.bool false) := bc g1 (by first | with_reducible assumption | go_simp)
  have f1_1_0 : w1.frozen? ⟨w.heap.size + 1, 0, none⟩ = false := bfz g1 (by (try simp) <;> omega) (by first | with_reducible assumption | go_simp)
  have c1_1_1 : w1.cell? ⟨w.heap.size + 1, 1, none⟩ = some (.string ⟨#[]⟩) := bc g1 (by first | with_reducible assumption | go_simp)
  have f1_1_1 : w1.frozen? ⟨w.heap.size + 1, 1, none⟩ = false := bfz g1 (by (try simp) <;> omega) (by first | with_reducible assumption | go_simp)
  clear g1
  go_wp2_with fail
  refine (H2.out _).mono ?_
  rintro e w2 ⟨rfl, g2⟩
  have c2_a := bc (b := w1.heap.size) (o := 0) (v := .bool b1) g2 (by go_simp)
  have c2_b := bc (b := w1.heap.size) (o := 1) (v := .string d1) g2 (by go_simp)
  have hz3 : w1.heap.size < w2.heap.size := by have := g2.size; (try simp at this); omega
  have hz2 : w.heap.size + 1 < w2.heap.size := by have := g2.size; (try simp at this); omega
  have hz2_0 : w.heap.size < w2.heap.size := by omega
  have B2 : Below w.heap.size w w2 := bn (by repeat (first | exact br _ | assumption | refine ba ?_ | refine bd ?_ | refine below_drewN ?_ _ | refine bs ?_ (by (try simp) <;> omega))) g2
  have c2_0_0 : w2.cell? ⟨w.heap.size, 0, none⟩ = some (.bool false) := bc g2 (by first | with_reducible assumption | go_simp)
  have f2_0_0 : w2.frozen? ⟨w.heap.size, 0, none⟩ = false := bfz g2 (by (try simp) <;> omega) (by first | with_reducible assumption | go_simp)
  have c2_0_1 : w2.cell? ⟨w.heap.size, 1, none⟩ = some (.string ⟨#[]⟩) := bc g2 (by first | with_reducible assumption | go_simp)
  have f2_0_1 : w2.frozen? ⟨w.heap.size, 1, none⟩ = false := bfz g2 (by (try simp) <;> omega) (by first | with_reducible assumption | go_simp)
  have c2_1_0 : w2.cell? ⟨w.heap.size + 1, 0, none⟩ = some (.bool false) := bc g2 (by first | with_reducible assumption | go_simp)
  have f2_1_0 : w2.frozen? ⟨w.heap.size + 1, 0, none⟩ = false := bfz g2 (by (try simp) <;> omega) (by first | with_reducible assumption | go_simp)
  have c2_1_1 : w2.cell? ⟨w.heap.size + 1, 1, none⟩ = some (.string ⟨#[]⟩) := bc g2 (by first | with_reducible assumption | go_simp)
  have f2_1_1 : w2.frozen? ⟨w.heap.size + 1, 1, none⟩ = false := bfz g2 (by (try simp) <;> omega) (by first | with_reducible assumption | go_simp)
  clear g2
  go_wp2
  go_region
  go_wp2
  refine bodyPost_ret (v := .tuple #[.agg #[.bool b1, .string d1], .agg #[.bool b2, .string d2], .int .i64 0]) (by simp [results, Tryz.results126, go_sem, *]) rfl ⟨(by first | rfl | rw [hI]), (by repeat (first | exact br _ | assumption | refine ba ?_ | refine bd ?_ | refine below_drewN ?_ _ | refine bs ?_ (by (try simp) <;> omega)))⟩

set_option maxHeartbeats 1000000 in
theorem iboth_bad (s t : ByteArray) (hs : s.size ≤ 1000000000) (ht : t.size ≤ 1000000000) (r1 r2 : Bool) (h1 : isIntB s = r1) (h2 : isIntB t = r2) (hr : (r1 && r2) = false) (w : World) :
    Calls Tryz.prog 126 #[.string s, .string t] w fun e w' => e = .returned (.tuple #[.agg #[.bool false, .string ⟨#[48]⟩], .agg #[.bool false, .string ⟨#[48]⟩], .int .i64 1]) ∧ Below w.heap.size w w' := by
  have H1 := Lib.hid (fun w => iread_any s hs w)
  have H2 := Lib.hid (fun w => iread_any t ht w)
  rw [h1] at H1
  rw [h2] at H2
  clear hs ht h1 h2
  generalize Lib.hasPrefix s.data.toList [45] = b1 at *
  generalize (⟨(Lib.trimPrefix s.data.toList [45]).toArray⟩ : ByteArray) = d1 at *
  generalize Lib.hasPrefix t.data.toList [45] = b2 at *
  generalize (⟨(Lib.trimPrefix t.data.toList [45]).toArray⟩ : ByteArray) = d2 at *
  cases r1 <;> cases r2
  case true.true => cases hr
  all_goals
    clear hr
    go_enter Tryz.func126, Tryz.ntmps126
    go_wp2_with fail
    refine (H1.out _).mono ?_
    rintro e w1 ⟨rfl, g1⟩
    have hz1 : w.heap.size + 1 < w1.heap.size := by have := g1.size; (try simp at this); omega
    have hz1_0 : w.heap.size < w1.heap.size := by omega
    have B1 : Below w.heap.size w w1 := bn (by repeat (first | exact br _ | assumption | refine ba ?_ | refine bd ?_ | refine below_drewN ?_ _ | refine bs ?_ (by (try simp) <;> omega))) g1
    have c1_0_0 : w1.cell? ⟨w.heap.size, 0, none⟩ = some (.bool false) := bc g1 (by first | with_reducible assumption | go_simp)
    have f1_0_0 : w1.frozen? ⟨w.heap.size, 0, none⟩ = false := bfz g1 (by (try simp) <;> omega) (by first | with_reducible assumption | go_simp)
    have c1_0_1 : w1.cell? ⟨w.heap.size, 1, none⟩ = some (.string ⟨#[]⟩) := bc g1 (by first | with_reducible assumption | go_simp)
    have f1_0_1 : w1.frozen? ⟨w.heap.size, 1, none⟩ = false := bfz g1 (by (try simp) <;> omega) (by first | with_reducible assumption | go_simp)
    have c1_1_0 : w1.cell? ⟨w.heap.size + 1, 0, none⟩ = some (.bool false) := bc g1 (by first | with_reducible assumption | go_simp)
    have f1_1_0 : w1.frozen? ⟨w.heap.size + 1, 0, none⟩ = false := bfz g1 (by (try simp) <;> omega) (by first | with_reducible assumption | go_simp)
    have c1_1_1 : w1.cell? ⟨w.heap.size + 1, 1, none⟩ = some (.string ⟨#[]⟩) := bc g1 (by first | with_reducible assumption | go_simp)
    have f1_1_1 : w1.frozen? ⟨w.heap.size + 1, 1, none⟩ = false := bfz g1 (by (try simp) <;> omega) (by first | with_reducible assumption | go_simp)
    clear g1
    go_wp2_with fail
    refine (H2.out _).mono ?_
    rintro e w2 ⟨rfl, g2⟩
    have hz2 : w.heap.size + 1 < w2.heap.size := by have := g2.size; (try simp at this); omega
    have hz2_0 : w.heap.size < w2.heap.size := by omega
    have B2 : Below w.heap.size w w2 := bn (by repeat (first | exact br _ | assumption | refine ba ?_ | refine bd ?_ | refine below_drewN ?_ _ | refine bs ?_ (by (try simp) <;> omega))) g2
    have c2_0_0 : w2.cell? ⟨w.heap.size, 0, none⟩ = some (.bool false) := bc g2 (by first | with_reducible assumption | go_simp)
    have f2_0_0 : w2.frozen? ⟨w.heap.size, 0, none⟩ = false := bfz g2 (by (try simp) <;> omega) (by first | with_reducible assumption | go_simp)
    have c2_0_1 : w2.cell? ⟨w.heap.size, 1, none⟩ = some (.string ⟨#[]⟩) := bc g2 (by first | with_reducible assumption | go_simp)
    have f2_0_1 : w2.frozen? ⟨w.heap.size, 1, none⟩ = false := bfz g2 (by (try simp) <;> omega) (by first | with_reducible assumption | go_simp)
    have c2_1_0 : w2.cell? ⟨w.heap.size + 1, 0, none⟩ = some (.bool false) := bc g2 (by first | with_reducible assumption | go_simp)
    have f2_1_0 : w2.frozen? ⟨w.heap.size + 1, 0, none⟩ = false := bfz g2 (by (try simp) <;> omega) (by first | with_reducible assumption | go_simp)
    have c2_1_1 : w2.cell? ⟨w.heap.size + 1, 1, none⟩ = some (.string ⟨#[]⟩) := bc g2 (by first | with_reducible assumption | go_simp)
    have f2_1_1 : w2.frozen? ⟨w.heap.size + 1, 1, none⟩ = false := bfz g2 (by (try simp) <;> omega) (by first | with_reducible assumption | go_simp)
    clear g2
    go_wp2_with fail
    refine (zero_lit _).mono ?_
    rintro e w3 ⟨rfl, g3⟩
    have hz3 : w.heap.size + 1 < w3.heap.size := by have := g3.size; (try simp at this); omega
    have hz3_0 : w.heap.size < w3.heap.size := by omega
    have B3 : Below w.heap.size w w3 := bn (by repeat (first | exact br _ | assumption | refine ba ?_ | refine bd ?_ | refine below_drewN ?_ _ | refine bs ?_ (by (try simp) <;> omega))) g3
    have c3_0_0 : w3.cell? ⟨w.heap.size, 0, none⟩ = some (.bool false) := bc g3 (by first | with_reducible assumption | go_simp)
    have f3_0_0 : w3.frozen? ⟨w.heap.size, 0, none⟩ = false := bfz g3 (by (try simp) <;> omega) (by first | with_reducible assumption | go_simp)
    have c3_0_1 : w3.cell? ⟨w.heap.size, 1, none⟩ = some (.string ⟨#[]⟩) := bc g3 (by first | with_reducible assumption | go_simp)
    have f3_0_1 : w3.frozen? ⟨w.heap.size, 1, none⟩ = false := bfz g3 (by (try simp) <;> omega) (by first | with_reducible assumption | go_simp)
    have c3_1_0 : w3.cell? ⟨w.heap.size + 1, 0, none⟩ = some (.bool false) := bc g3 (by first | with_reducible assumption | go_simp)
    have f3_1_0 : w3.frozen? ⟨w.heap.size + 1, 0, none⟩ = false := bfz g3 (by (try simp) <;> omega) (by first | with_reducible assumption | go_simp)
    have c3_1_1 : w3.cell? ⟨w.heap.size + 1, 1, none⟩ = some (.string ⟨#[]⟩) := bc g3 (by first | with_reducible assumption | go_simp)
    have f3_1_1 : w3.frozen? ⟨w.heap.size + 1, 1, none⟩ = false := bfz g3 (by (try simp) <;> omega) (by first | with_reducible assumption | go_simp)
    clear g3
    go_wp2_with fail
    refine (zero_lit _).mono ?_
    rintro e w4 ⟨rfl, g4⟩
    have hz4 : w.heap.size + 1 < w4.heap.size := by have := g4.size; (try simp at this); omega
    have hz4_0 : w.heap.size < w4.heap.size := by omega
    have B4 : Below w.heap.size w w4 := bn (by repeat (first | exact br _ | assumption | refine ba ?_ | refine bd ?_ | refine below_drewN ?_ _ | refine bs ?_ (by (try simp) <;> omega))) g4
    have c4_0_0 : w4.cell? ⟨w.heap.size, 0, none⟩ = some (.bool false) := bc g4 (by first | with_reducible assumption | go_simp)
    have f4_0_0 : w4.frozen? ⟨w.heap.size, 0, none⟩ = false := bfz g4 (by (try simp) <;> omega) (by first | with_reducible assumption | go_simp)
    have c4_0_1 : w4.cell? ⟨w.heap.size, 1, none⟩ = some (.string ⟨#[]⟩) := bc g4 (by first | with_reducible assumption | go_simp)
    have f4_0_1 : w4.frozen? ⟨w.heap.size, 1, none⟩ = false := bfz g4 (by (try simp) <;> omega) (by first | with_reducible assumption | go_simp)
    have c4_1_0 : w4.cell? ⟨w.heap.size + 1, 0, none⟩ = some (.bool false) := bc g4 (by first | with_reducible assumption | go_simp)
    have f4_1_0 : w4.frozen? ⟨w.heap.size + 1, 0, none⟩ = false := bfz g4 (by (try simp) <;> omega) (by first | with_reducible assumption | go_simp)
    have c4_1_1 : w4.cell? ⟨w.heap.size + 1, 1, none⟩ = some (.string ⟨#[]⟩) := bc g4 (by first | with_reducible assumption | go_simp)
    have f4_1_1 : w4.frozen? ⟨w.heap.size + 1, 1, none⟩ = false := bfz g4 (by (try simp) <;> omega) (by first | with_reducible assumption | go_simp)
    clear g4
    go_wp2
    refine bodyPost_ret (v := .tuple #[.agg #[.bool false, .string ⟨#[48]⟩], .agg #[.bool false, .string ⟨#[48]⟩], .int .i64 1]) (by simp [results, Tryz.results126, go_sem, *]) rfl ⟨(by first | rfl | rw [hI]), (by repeat (first | exact br _ | assumption | refine ba ?_ | refine bd ?_ | refine below_drewN ?_ _ | refine bs ?_ (by (try simp) <;> omega)))⟩

set_option maxHeartbeats 1000000 in
theorem ione_walk (x : Int) (hx : (itx x).size ≤ 1000000000) (w : World) :
    Calls Tryz.prog 154 #[.string (itx x)] w fun e w' => e = .returned (.tuple #[IV x, .int .i64 0]) ∧ Below w.heap.size w w' := by
  have h0 : itx 0 = ⟨#[48]⟩ := (itx_eq_zero 0).2 rfl
  have H1 := Lib.hid (fun w => iboth_walk x 0 hx (by rw [h0]; decide) w)
  rw [h0] at H1
  clear hx h0
  generalize itx x = s at *
  obtain ⟨b1, d1, e1⟩ := IV_shape x
  obtain ⟨b2, d2, e2⟩ := IV_shape 0
  rw [e1] at H1 ⊢
  rw [e2] at H1
  clear e1 e2
  go_enter Tryz.func154, Tryz.ntmps154
  go_wp2_with fail
  refine (H1.out _).mono ?_
  rintro e w1 ⟨rfl, g1⟩
  have hz1 : w.heap.size < w1.heap.size := by have := g1.size; (try simp at this); omega
  have B1 : Below w.heap.size w w1 := bn (by repeat (first | exact br _ | assumption | refine ba ?_ | refine bd ?_ | refine below_drewN ?_ _ | refine bs ?_ (by (try simp) <;> omega))) g1
  have c1_0_0 : w1.cell? ⟨w.heap.size, 0, none⟩ = some (.bool false) := bc g1 (by first | with_reducible assumption | go_simp)
  have f1_0_0 : w1.frozen? ⟨w.heap.size, 0, none⟩ = false := bfz g1 (by (try simp) <;> omega) (by first | with_reducible assumption | go_simp)
  have c1_0_1 : w1.cell? ⟨w.heap.size, 1, none⟩ = some (.string ⟨#[]⟩) := bc g1 (by first | with_reducible assumption | go_simp)
  have f1_0_1 : w1.frozen? ⟨w.heap.size, 1, none⟩ = false := bfz g1 (by (try simp) <;> omega) (by first | with_reducible assumption | go_simp)
  clear g1
  go_wp2
  refine bodyPost_ret (v := .tuple #[.agg #[.bool b1, .string d1], .int .i64 0]) (by simp [results, Tryz.results154, go_sem, *]) rfl ⟨(by first | rfl | rw [hI]), (by repeat (first | exact br _ | assumption | refine ba ?_ | refine bd ?_ | refine below_drewN ?_ _ | refine bs ?_ (by (try simp) <;> omega)))⟩
end Go.Proofs.YtbnbaokamccmjaaGreatDoor
