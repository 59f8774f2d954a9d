/- natural: compare: what it returns, for every two numbers in their normal form. -/
import Derived.Test.YtbnbaokamccmjaaGreatDoorNa1
set_option linter.unusedVariables false
set_option linter.unusedSimpArgs false
namespace Go.Proofs.YtbnbaokamccmjaaGreatDoor
open Go Go.RowKit

/-- How two whole numbers compare: -1, 0 or 1. -/
def cmpN (a b : Int) : Int := if a < b then -1 else if b < a then 1 else 0

theorem cmpN_lt {a b : Int} (h : a < b) : cmpN a b = -1 := by unfold cmpN; rw [if_pos h]
theorem cmpN_gt {a b : Int} (h : b < a) : cmpN a b = 1 := by unfold cmpN; rw [if_neg (by omega), if_pos h]
theorem cmpN_eq (a : Int) : cmpN a a = 0 := by unfold cmpN; rw [if_neg (by omega), if_neg (by omega)]

theorem ret_int {k : IntKind} {a b : Int} (h : a = b) : Ending.returned (.int k a) = .returned (.int k b) := by rw [h]

set_option maxHeartbeats 400000 in
theorem isNaN_int_walk (a : Int) (w : World) : Calls Tryz.prog 236 #[.int .i64 a] w fun e w' => e = .returned (.bool false) ∧ w = w' := by
  have h : (a != a) = false := by simp
  go_enter Tryz.func236, Tryz.ntmps236
  go_wp2
  go_ret
  exact ⟨rfl, rfl⟩
set_option maxHeartbeats 400000 in
theorem isNaN_u32_walk (a : Int) (w : World) : Calls Tryz.prog 237 #[.int .u32 a] w fun e w' => e = .returned (.bool false) ∧ w = w' := by
  have h : (a != a) = false := by simp
  go_enter Tryz.func237, Tryz.ntmps237
  go_wp2
  go_ret
  exact ⟨rfl, rfl⟩
set_option maxHeartbeats 400000 in
theorem cmp_int_walk (a b : Int) (w : World) : Calls Tryz.prog 218 #[.int .i64 a, .int .i64 b] w fun e w' => e = .returned (.int .i64 (cmpN a b)) ∧ w' = w := by
  go_enter Tryz.func218, Tryz.ntmps218
  go_wp2_with (go_at_call 236; refine (isNaN_int_walk _ _).mono ?_; rintro e w1 ⟨rfl, rfl⟩)
  · go_ret
    exact ⟨(ret_int (cmpN_lt (by assumption))).symm, rfl⟩
  · go_ret
    exact ⟨(ret_int (cmpN_gt (by assumption))).symm, rfl⟩
  · go_ret
    have : a = b := by omega
    subst this
    exact ⟨(ret_int (cmpN_eq _)).symm, rfl⟩
set_option maxHeartbeats 400000 in
theorem cmp_u32_walk (a b : Int) (w : World) : Calls Tryz.prog 219 #[.int .u32 a, .int .u32 b] w fun e w' => e = .returned (.int .i64 (cmpN a b)) ∧ w' = w := by
  go_enter Tryz.func219, Tryz.ntmps219
  go_wp2_with (go_at_call 237; refine (isNaN_u32_walk _ _).mono ?_; rintro e w1 ⟨rfl, rfl⟩)
  · go_ret
    exact ⟨(ret_int (cmpN_lt (by assumption))).symm, rfl⟩
  · go_ret
    exact ⟨(ret_int (cmpN_gt (by assumption))).symm, rfl⟩
  · go_ret
    have : a = b := by omega
    subst this
    exact ⟨(ret_int (cmpN_eq _)).symm, rfl⟩

theorem cmp_by_length {n m : Nat} (h : (wds n).length ≠ (wds m).length) : cmpN (wds n).length (wds m).length = cmpN n m := by
  rcases Nat.lt_or_ge (wds n).length (wds m).length with h1 | h1
  · have h2 : n < m := by
      have a := lt_wds_pow n
      have b := le_of_wds_length h1
      omega
    rw [cmpN_lt (by omega), cmpN_lt (by omega)]
  · have h2 : m < n := by
      have a := lt_wds_pow m
      have b := le_of_wds_length (show (wds m).length < (wds n).length by omega)
      omega
    rw [cmpN_gt (by omega), cmpN_gt (by omega)]
theorem cmp_by_word {n m k : Nat} (hl : (wds n).length = (wds m).length) (hk : k < (wds n).length) (ht : ∀ j, k < j → j < (wds n).length → wd (wds n) j = wd (wds m) j)
    (h : wd (wds n) k ≠ wd (wds m) k) : cmpN (wd (wds n) k) (wd (wds m) k) = cmpN n m := by
  rcases Nat.lt_or_ge (wd (wds n) k) (wd (wds m) k) with h1 | h1
  · have h2 := val_lt_of_top (okw_wds n) k hk hl ht h1
    rw [val_wds, val_wds] at h2
    rw [cmpN_lt (by omega), cmpN_lt (by omega)]
  · have h2 := val_lt_of_top (okw_wds m) k (by omega) hl.symm (fun j a b => (ht j a (by omega)).symm) (show wd (wds m) k < wd (wds n) k by omega)
    rw [val_wds, val_wds] at h2
    rw [cmpN_gt (by omega), cmpN_gt (by omega)]
theorem eq_by_words {n m : Nat} (hl : (wds n).length = (wds m).length) (ht : ∀ j, 0 ≤ j → j < (wds n).length → wd (wds n) j = wd (wds m) j) : n = m := by
  refine wds_inj (List.ext_getElem hl fun i h1 h2 => ?_)
  have := ht i (by omega) h1
  unfold wd at this
  rwa [List.getD_eq_getElem?_getD, List.getElem?_eq_getElem h1, List.getD_eq_getElem?_getD, List.getElem?_eq_getElem h2] at this

set_option maxHeartbeats 1000000 in
theorem compare_walk (v u : Value) (n m : Nat) (w : World) (h : Num w v n) (g : Num w u m) :
    Calls Tryz.prog 196 #[v, u] w fun e w' => e = .returned (.int .i64 (cmpN n m)) ∧ Below w.heap.size w w' := by
  obtain ⟨A, cap, rfl, hn, hc, hcell⟩ := h.open
  obtain ⟨B, cap', rfl, gn, gc, gcell⟩ := g.open
  by_cases hl : (wds n).length = (wds m).length
  · have k0 : (((wds n).length : Int) != ((wds m).length : Int)) = false := by rw [bne_eq_false_iff_eq]; omega
    have Hl := Lib.hid hl
    clear hl
    go_enter Tryz.func196, Tryz.ntmps196
    go_wp2
    go_loopw [5] (fun i wr => ∃ k : Nat, k ≤ (wds n).length ∧ (∀ j, k ≤ j → j < (wds n).length → wd (wds n) j = wd (wds m) j) ∧ i = .int .i64 ((k : Int) - 1) ∧ Below w.heap.size w wr) (fun i _ => (intOf i + 1).toNat)
    case atStart => exact ⟨(wds n).length, Nat.le_refl _, fun j h1 h2 => by omega, rfl, Below.refl _ _⟩
    case round =>
      obtain ⟨k, hk, hz, rfl, hb⟩ := hrel
      have Hz := Lib.hid hz
      clear hz
      have hll := Hl.out
      by_cases h0 : k = 0
      · subst h0
        clear hll
        go_wp2
        go_ret
        have := eq_by_words Hl.out Hz.out
        subst this
        exact ⟨(ret_int (cmpN_eq _)).symm, hb⟩
      · obtain ⟨b, off, rfl, hcl⟩ := hcell (by omega)
        obtain ⟨b', off', rfl, gcl⟩ := gcell (by omega)
        have hck := cell_below hb (hcl (k - 1) (by omega))
        have gck := cell_below hb (gcl (k - 1) (by omega))
        have hkm : k ≤ (wds m).length := by omega
        clear hll hcl gcl hcell gcell
        obtain ⟨j, rfl⟩ : ∃ j, k = j + 1 := ⟨k - 1, by omega⟩
        rw [Nat.add_sub_cancel] at hck gck
        by_cases hw : wd (wds n) j = wd (wds m) j
        · have hbb : ((wd (wds n) j : Int) != (wd (wds m) j : Int)) = false := by rw [bne_eq_false_iff_eq]; omega
          have Hw := Lib.hid hw
          clear hw
          go_wp2
          go_quiet (fail)
          go_wp2
          go_roundw
          case rel =>
            refine ⟨j, by omega, fun i h1 h2 => ?_, by go_num, below_drewN hb _⟩
            by_cases e : i = j
            · rw [e]; exact Hw.out
            · exact Hz.out i (by omega) h2
          case measure => simp [intOf]
        · have hbb : ((wd (wds n) j : Int) != (wd (wds m) j : Int)) = true := by rw [bne_iff_ne]; omega
          have hfin := cmp_by_word Hl.out (k := j) (by omega) (fun i a b => Hz.out i (by omega) b) hw
          have Hfin := Lib.hid hfin
          clear hfin hw
          go_wp2
          go_quiet (fail)
          go_wp2
          go_quiet ((go_at_call 219; exact quiet_add_same (cmp_u32_walk _ _ _)))
          go_wp2
          go_ret
          exact ⟨ret_int Hfin.out, below_drewN (below_drewN hb _) _⟩
  · have k0 : (((wds n).length : Int) != ((wds m).length : Int)) = true := by rw [bne_iff_ne]; omega
    have hfin := cmp_by_length hl
    have Hfin := Lib.hid hfin
    clear hfin hl
    go_enter Tryz.func196, Tryz.ntmps196
    go_wp2_with (go_at_call 218; refine (cmp_int_walk _ _ _).mono ?_; rintro e w1 ⟨rfl, rfl⟩)
    go_ret
    exact ⟨ret_int Hfin.out, Below.refl _ _⟩
end Go.Proofs.YtbnbaokamccmjaaGreatDoor
