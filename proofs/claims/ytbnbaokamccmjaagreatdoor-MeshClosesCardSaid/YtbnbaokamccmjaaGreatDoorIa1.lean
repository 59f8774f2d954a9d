/- integer: zero, with, text, opposite, sign. -/
import Derived.Deep.QuietTactic
import Derived.BigQuiet
import Derived.Deep.RegionHeld3
import Derived.OwnWalk
import Derived.Test.YtbnbaokamccmjaaGreatDoorNb3
import Derived.Test.YtbnbaokamccmjaaGreatDoorMb1
set_option linter.unusedVariables false
set_option linter.unusedSimpArgs false
namespace Go.Proofs.YtbnbaokamccmjaaGreatDoor
open Go Go.RowKit

/-- An integer as the program keeps it. -/
def IV (z : Int) : Value := .agg #[.bool (decide (z < 0)), .string (dec z.natAbs)]
set_option maxHeartbeats 400000 in
theorem zero_walk (w : World) :
    Calls Tryz.prog 156 #[] w fun e w' => e = .returned (IV 0) ∧ Below w.heap.size w w' := by
  have e0 : IV 0 = .agg #[.bool false, .string ⟨#[48]⟩] := by
    show Value.agg #[.bool false, .string (dec 0)] = _
    rw [dec_zero]
  rw [e0]
  go_enter Tryz.func156, Tryz.ntmps156
  go_wp2
  refine bodyPost_ret (v := .agg #[.bool false, .string ⟨#[48]⟩]) (by simp [results, Tryz.results156, go_sem]) rfl ⟨rfl, ?_⟩
  exact (Below.refl _ _).alloc (Nat.le_refl _) _

theorem zero_lit (w : World) :
    Calls Tryz.prog 156 #[] w fun e w' => e = .returned (.agg #[.bool false, .string ⟨#[48]⟩]) ∧ Below w.heap.size w w' := by
  have e0 : IV 0 = .agg #[.bool false, .string ⟨#[48]⟩] := by
    show Value.agg #[.bool false, .string (dec 0)] = _
    rw [dec_zero]
  rw [← e0]
  exact zero_walk w
theorem ret_str {a b : ByteArray} (h : a = b) : Ending.returned (.string a) = .returned (.string b) := by rw [h]
theorem toList_48 (d : ByteArray) : d.toList = [48] ↔ d = ⟨#[48]⟩ := by
  rw [ByteArray.toList_eq]
  exact ⟨fun e => ba_ext e, fun e => by rw [e]⟩

/-- with: a sign and an absolute value. -/
def sgnI (b : Bool) (n : Nat) : Int := if b then -(n : Int) else n
theorem IV_sgnI (b : Bool) (n : Nat) : IV (sgnI b n) = .agg #[.bool (b && decide (n ≠ 0)), .string (dec n)] := by
  unfold IV sgnI
  cases b
  · simp
  · by_cases h : n = 0
    · subst h; simp
    · simp [h]; omega

set_option maxHeartbeats 400000 in
theorem with_walk (b : Bool) (n : Nat) (w : World) :
    Calls Tryz.prog 158 #[.bool b, .string (dec n)] w fun e w' => e = .returned (IV (sgnI b n)) ∧ Below w.heap.size w w' := by
  rw [IV_sgnI]
  have hd : (dec n).toList = [48] ↔ n = 0 := by rw [toList_48, dec_eq_zero]
  generalize dec n = d at *
  by_cases h0 : n = 0
  · have hde : d.toList = [48] := hd.2 h0
    have hde2 : decide (n ≠ 0) = false := by simp [h0]
    rw [hde2]
    clear hd h0 hde2
    cases b
    · go_enter Tryz.func158, Tryz.ntmps158
      go_wp2
      refine bodyPost_ret (v := .agg #[.bool false, .string d]) (by simp [results, Tryz.results158, go_sem]) rfl ⟨rfl, ?_⟩
      exact (Below.refl _ _).alloc (Nat.le_refl _) _
    · go_enter Tryz.func158, Tryz.ntmps158
      go_wp2
      refine bodyPost_ret (v := .agg #[.bool false, .string d]) (by simp [results, Tryz.results158, go_sem]) rfl ⟨rfl, ?_⟩
      exact (Below.refl _ _).alloc (Nat.le_refl _) _
  · have hde : ¬ d.toList = [48] := fun e => h0 (hd.1 e)
    have hde2 : decide (n ≠ 0) = true := by simp [h0]
    rw [hde2]
    clear hd h0 hde2
    cases b
    · go_enter Tryz.func158, Tryz.ntmps158
      go_wp2
      refine bodyPost_ret (v := .agg #[.bool false, .string d]) (by simp [results, Tryz.results158, go_sem]) rfl ⟨rfl, ?_⟩
      exact (Below.refl _ _).alloc (Nat.le_refl _) _
    · go_enter Tryz.func158, Tryz.ntmps158
      go_wp2
      refine bodyPost_ret (v := .agg #[.bool true, .string d]) (by simp [results, Tryz.results158, go_sem, hde]) rfl ⟨rfl, ?_⟩
      exact (Below.refl _ _).alloc (Nat.le_refl _) _

set_option maxHeartbeats 400000 in
theorem itext_walk (z : Int) (hz : (dec z.natAbs).size ≤ 1000000000) (w : World) :
    Calls Tryz.prog 128 #[IV z] w fun e w' => e = .returned (.string (itx z)) ∧ Below w.heap.size w w' := by
  rw [itx_dec]
  unfold IV
  by_cases h : z < 0
  · rw [if_pos h, decide_eq_true h]
    generalize dec z.natAbs = d at *
    clear h
    go_enter Tryz.func128, Tryz.ntmps128
    go_wp2
    go_ret
    refine ⟨?_, (Below.refl _ _).alloc (Nat.le_refl _) _⟩
    exact ret_str (ba_ext (by simp))
  · rw [if_neg h, decide_eq_false h]
    generalize dec z.natAbs = d at *
    clear h
    go_enter Tryz.func128, Tryz.ntmps128
    go_wp2
    go_ret
    exact ⟨rfl, (Below.refl _ _).alloc (Nat.le_refl _) _⟩

theorem opp_sgn (z : Int) : sgnI (!decide (z < 0)) z.natAbs = -z := by
  unfold sgnI
  by_cases h : z < 0
  · rw [decide_eq_true h]; simp; omega
  · rw [decide_eq_false h]; simp; omega

set_option maxHeartbeats 400000 in
theorem opposite_walk (z : Int) (w : World) :
    Calls Tryz.prog 130 #[IV z] w fun e w' => e = .returned (IV (-z)) ∧ Below w.heap.size w w' := by
  have HO := Lib.hid (opp_sgn z)
  unfold IV
  generalize hb : decide (z < 0) = b at *
  go_enter Tryz.func130, Tryz.ntmps130
  go_wp2_with fail
  refine (with_walk (!b) z.natAbs _).mono ?_
  rintro e w1 ⟨rfl, g1⟩
  rw [HO.out]
  obtain ⟨hc, hf⟩ := bcell g1
  have hz := g1.size
  have hz2 : w.heap.size + 1 < w1.heap.size := by simp at hz; omega
  unfold IV
  go_wp2
  refine bodyPost_ret (v := .agg #[.bool (decide (-z < 0)), .string (dec (-z).natAbs)]) (by simp [results, Tryz.results130, go_sem, hc, hz2]) rfl ⟨rfl, ?_⟩
  exact below_then ((Below.refl _ _).alloc (Nat.le_refl _) _ |>.alloc (by simp) _) (by simp; omega) (g1) |>.setCell (by simp) _ |>.setCell (by simp) _

theorem eql_number (b c : Bool) (s t : ByteArray) : ∀ w, (binOp .eql 167 (.agg #[.bool b, .string s]) (.agg #[.bool c, .string t])).run Tryz.prog w = .ok (.bool (b == c && s.toList == t.toList)) w := by
  intro w
  go_simp
  by_cases h1 : b = c <;> by_cases h2 : s.toList = t.toList <;> simp [h1, h2]

/-- The sign. -/
def sgn (z : Int) : Int := if z = 0 then 0 else if z < 0 then -1 else 1
set_option maxHeartbeats 1000000 in
theorem sign_true (d : ByteArray) (r : Bool) (hr : (d.toList == [48]) = r) (w : World) :
    Calls Tryz.prog 131 #[.agg #[.bool true, .string d]] w fun e w' => e = .returned (.int .i64 (if !true && r then 0 else if true then -1 else 1)) ∧ Below w.heap.size w w' := by
  have heq := eql_number
  cases r
  all_goals
    go_enter Tryz.func131, Tryz.ntmps131
    go_wp2
    go_region_held3 (fun w' => w'.cell? ⟨w.heap.size, 0, none⟩ = some (.bool true) ∧ w'.cell? ⟨w.heap.size, 1, none⟩ = some (.string d) ∧ Below w.heap.size w w') (first | exact ⟨by simp, by simp, ((Below.refl _ _).alloc (Nat.le_refl _) _).drew⟩ | exact ⟨(hc _ _ (by simp)).trans (by simp), (hc _ _ (by simp)).trans (by simp), below_then ((Below.refl _ _).alloc (Nat.le_refl _) _).drew (by simp) hb1⟩) (first | (go_at_call 156; refine (zero_lit _).mono ?_; rintro e w1 ⟨rfl, hb1⟩; have hc := (bcell hb1).1))
    have hB := below_then (((Below.refl w.heap.size w).alloc (Nat.le_refl _) _).drew) (by simp) hb1
    have hc0 := (hc w.heap.size 0 (by simp)).trans (by simp : _ = some (Value.bool true))
    clear hc hb1 heq
    go_wp2
    go_ret
    exact ⟨rfl, hB⟩
set_option maxHeartbeats 1000000 in
theorem sign_false (d : ByteArray) (r : Bool) (hr : (d.toList == [48]) = r) (w : World) :
    Calls Tryz.prog 131 #[.agg #[.bool false, .string d]] w fun e w' => e = .returned (.int .i64 (if !false && r then 0 else if false then -1 else 1)) ∧ Below w.heap.size w w' := by
  have heq := eql_number
  cases r
  all_goals
    go_enter Tryz.func131, Tryz.ntmps131
    go_wp2
    go_region_held3 (fun w' => w'.cell? ⟨w.heap.size, 0, none⟩ = some (.bool false) ∧ w'.cell? ⟨w.heap.size, 1, none⟩ = some (.string d) ∧ Below w.heap.size w w') (first | exact ⟨by simp, by simp, ((Below.refl _ _).alloc (Nat.le_refl _) _).drew⟩ | exact ⟨(hc _ _ (by simp)).trans (by simp), (hc _ _ (by simp)).trans (by simp), below_then ((Below.refl _ _).alloc (Nat.le_refl _) _).drew (by simp) hb1⟩) (first | (go_at_call 156; refine (zero_lit _).mono ?_; rintro e w1 ⟨rfl, hb1⟩; have hc := (bcell hb1).1))
    have hB := below_then (((Below.refl w.heap.size w).alloc (Nat.le_refl _) _).drew) (by simp) hb1
    have hc0 := (hc w.heap.size 0 (by simp)).trans (by simp : _ = some (Value.bool false))
    clear hc hb1 heq
    go_wp2
    go_ret
    exact ⟨rfl, hB⟩
theorem sign_at (b : Bool) (d : ByteArray) (r : Bool) (hr : (d.toList == [48]) = r) (w : World) :
    Calls Tryz.prog 131 #[.agg #[.bool b, .string d]] w fun e w' => e = .returned (.int .i64 (if !b && r then 0 else if b then -1 else 1)) ∧ Below w.heap.size w w' := by
  cases b
  · exact sign_false d r hr w
  · exact sign_true d r hr w
theorem sign_walk (z : Int) (w : World) :
    Calls Tryz.prog 131 #[IV z] w fun e w' => e = .returned (.int .i64 (sgn z)) ∧ Below w.heap.size w w' := by
  have h := sign_at (decide (z < 0)) (dec z.natAbs) (decide (z.natAbs = 0)) (by rw [ByteArray.toList_eq, dec_toList, decDigits_eq_zero]) w
  have e : (if !decide (z < 0) && decide (z.natAbs = 0) then (0 : Int) else if decide (z < 0) then -1 else 1) = sgn z := by
    unfold sgn
    by_cases h0 : z = 0
    · subst h0; rfl
    · have h1 : ¬ z.natAbs = 0 := by omega
      by_cases h2 : z < 0 <;> simp [h0, h1, h2]
  rw [e] at h
  exact h
end Go.Proofs.YtbnbaokamccmjaaGreatDoor
