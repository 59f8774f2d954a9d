/- natural: Valid: which texts are natural numbers. -/
import Derived.Test.YtbnbaokamccmjaaGreatDoorLi1
set_option linter.unusedVariables false
set_option linter.unusedSimpArgs false
namespace Go.Proofs.YtbnbaokamccmjaaGreatDoor
open Go Go.RowKit

theorem toList_length (s : ByteArray) : s.data.toList.length = s.size := Array.length_toList
/-- Byte number k of a text. -/
def bt (s : ByteArray) (k : Nat) : Nat := (s.data.toList.getD k 0).toNat
theorem bt_at (s : ByteArray) (k : Nat) : ∀ h : k < s.size, ((s[k]'h).toNat : Int) = (bt s k : Int) := fun h => by
  have h' : k < s.data.toList.length := by rw [toList_length]; exact h
  unfold bt
  rw [List.getD_eq_getElem?_getD, List.getElem?_eq_getElem h']
  rfl
theorem bt_lt (s : ByteArray) (k : Nat) : (bt s k : Int) ≤ 255 := by
  have := (s.data.toList.getD k 0).toNat_lt
  unfold bt
  omega
theorem digs_take_succ {s : ByteArray} {k : Nat} (h : k < s.size) : digs (s.data.toList.take (k + 1)) = (digs (s.data.toList.take k) && (decide (48 ≤ bt s k) && decide (bt s k ≤ 57))) := by
  have h' : k < s.data.toList.length := by rw [toList_length]; exact h
  rw [List.take_succ_eq_append_getElem h', digs_append, digs_cons]
  unfold bt
  rw [List.getD_eq_getElem?_getD, List.getElem?_eq_getElem h']
  simp [digs]
theorem isNat_empty : isNat [] = false := rfl
theorem isNat_lead {s : ByteArray} (h1 : 1 < s.size) (h0 : bt s 0 = 48) : isNat s.data.toList = false := by
  have hl : 1 < s.data.toList.length := by rw [toList_length]; exact h1
  unfold isNat
  cases hs : s.data.toList with
  | nil => rw [hs] at hl; simp at hl
  | cons c r =>
    have hc : c = 48 := by
      unfold bt at h0
      rw [hs, List.getD_cons_zero] at h0
      exact UInt8.toNat_inj.1 h0
    subst hc
    rw [hs] at hl
    have : r ≠ [] := fun e => by rw [e] at hl; simp at hl
    simp [this]
theorem isNat_rest {s : ByteArray} (h0 : 0 < s.size) (h : ¬ (1 < s.size ∧ bt s 0 = 48)) : isNat s.data.toList = digs s.data.toList := by
  have hl : 0 < s.data.toList.length := by rw [toList_length]; exact h0
  unfold isNat
  cases hs : s.data.toList with
  | nil => rw [hs] at hl; simp at hl
  | cons c r =>
    have hlen : s.size = r.length + 1 := by rw [← toList_length, hs]; rfl
    by_cases hr : r = []
    · subst hr; simp
    · have hp := List.length_pos_iff.2 hr
      have : c ≠ 48 := fun e => by
        refine h ⟨by omega, ?_⟩
        unfold bt
        rw [hs, List.getD_cons_zero, e]; rfl
      have h2 : 1 < r.length + 1 := by omega
      simp [hr, this, h2, hp]
theorem digs_false {s : ByteArray} {k : Nat} (h : k < s.size) (hc : bt s k < 48 ∨ 57 < bt s k) : digs s.data.toList = false := by
  have e := digs_append (s.data.toList.take (k + 1)) (s.data.toList.drop (k + 1))
  rw [List.take_append_drop, digs_take_succ h] at e
  rw [e]
  have : (decide (48 ≤ bt s k) && decide (bt s k ≤ 57)) = false := by
    rcases hc with hc | hc
    · rw [decide_eq_false (by omega), Bool.false_and]
    · rw [decide_eq_false (show ¬ bt s k ≤ 57 by omega), Bool.and_false]
  rw [this, Bool.and_false, Bool.false_and]

theorem ret_bool {a b : Bool} (h : a = b) : Ending.returned (.bool a) = .returned (.bool b) := by rw [h]

set_option maxHeartbeats 1000000 in
theorem valid_walk (s : ByteArray) (hs : s.size ≤ 9223372036854775806) (w : World) :
    Calls Tryz.prog 149 #[.string s] w fun e w' => e = .returned (.bool (isNat s.data.toList)) ∧ w' = w := by
  by_cases h0 : s.size = 0
  · obtain rfl : s = ⟨#[]⟩ := ba_ext (by
      have : s.data.toList.length = 0 := by rw [toList_length]; exact h0
      rw [List.length_eq_zero_iff.1 this])
    go_enter Tryz.func149, Tryz.ntmps149
    go_wp2
    go_ret
    exact ⟨rfl, rfl⟩
  · have hne : s.toList.isEmpty = false := by
      rw [ByteArray.toList_eq]
      cases hl : s.data.toList with
      | nil => exact absurd (by rw [← toList_length, hl]; rfl) h0
      | cons _ _ => rfl
    have hb0 := bt_at s 0
    by_cases h1 : 1 < s.size ∧ bt s 0 = 48
    · have hz : ((bt s 0 : Int) == 48) = true := by rw [h1.2]; rfl
      have h1I : 1 < s.size := h1.1
      have H := Lib.hid (isNat_lead h1.1 h1.2)
      clear h1 h0
      go_enter Tryz.func149, Tryz.ntmps149
      go_wp2
      go_ret
      exact ⟨ret_bool H.out.symm, rfl⟩
    · have hrest := isNat_rest (by omega) h1
      have HR := Lib.hid hrest
      clear hrest
      by_cases h2 : 1 < s.size
      · have hz : ((bt s 0 : Int) == 48) = false := beq_eq_false_iff_ne.2 (by omega)
        have H1 := Lib.hid h1
        clear h1 h0
        go_enter Tryz.func149, Tryz.ntmps149
        go_wp2
        go_loop [18] (fun i => ∃ k : Nat, k ≤ s.size ∧ Hid (digs (s.data.toList.take k) = true) ∧ i = .int .i64 k) (fun i => s.size - (intOf i).toNat)
        case atStart => exact ⟨0, Nat.zero_le _, Lib.hid rfl, rfl⟩
        case round =>
          obtain ⟨k, hk, hd, rfl⟩ := hrel
          by_cases hlt : k < s.size
          · have hbk := bt_at s k
            by_cases hlo : (bt s k : Int) ≤ 47
            · have HH := Lib.hid (digs_false hlt (.inl (show bt s k < 48 by omega)))
              go_wp2
              go_ret
              exact ⟨ret_bool (by rw [HR.out, HH.out]), rfl⟩
            · by_cases hhi : (bt s k : Int) ≤ 57
              · have HH := Lib.hid (show digs (s.data.toList.take (k + 1)) = true by
                  rw [digs_take_succ hlt, hd.out, decide_eq_true (show 48 ≤ bt s k by omega), decide_eq_true (show bt s k ≤ 57 by omega)]; rfl)
                go_wp2
                go_round
                case rel => exact ⟨k + 1, by omega, HH, by simp⟩
                case measure => simp [intOf]; omega
              · have HH := Lib.hid (digs_false hlt (.inr (show 57 < bt s k by omega)))
                go_wp2
                go_ret
                exact ⟨ret_bool (by rw [HR.out, HH.out]), rfl⟩
          · obtain rfl : k = s.size := by omega
            go_wp2
            go_ret
            have HH := hd.out
            rw [List.take_of_length_le (Nat.le_of_eq (toList_length s))] at HH
            exact ⟨ret_bool (by rw [HR.out, HH]), rfl⟩
      · have H1 := Lib.hid h1
        have h3 : s.size = 1 := by omega
        have hq : ¬ (1 : Int) < (s.size : Int) := by omega
        clear h1 h0
        go_enter Tryz.func149, Tryz.ntmps149
        go_wp2
        go_loop [18] (fun i => ∃ k : Nat, k ≤ s.size ∧ Hid (digs (s.data.toList.take k) = true) ∧ i = .int .i64 k) (fun i => s.size - (intOf i).toNat)
        case atStart => exact ⟨0, Nat.zero_le _, Lib.hid rfl, rfl⟩
        case round =>
          obtain ⟨k, hk, hd, rfl⟩ := hrel
          by_cases hlt : k < s.size
          · have hbk := bt_at s k
            by_cases hlo : (bt s k : Int) ≤ 47
            · have HH := Lib.hid (digs_false hlt (.inl (show bt s k < 48 by omega)))
              go_wp2
              go_ret
              exact ⟨ret_bool (by rw [HR.out, HH.out]), rfl⟩
            · by_cases hhi : (bt s k : Int) ≤ 57
              · have HH := Lib.hid (show digs (s.data.toList.take (k + 1)) = true by
                  rw [digs_take_succ hlt, hd.out, decide_eq_true (show 48 ≤ bt s k by omega), decide_eq_true (show bt s k ≤ 57 by omega)]; rfl)
                go_wp2
                go_round
                case rel => exact ⟨k + 1, by omega, HH, by simp⟩
                case measure => simp [intOf]; omega
              · have HH := Lib.hid (digs_false hlt (.inr (show 57 < bt s k by omega)))
                go_wp2
                go_ret
                exact ⟨ret_bool (by rw [HR.out, HH.out]), rfl⟩
          · obtain rfl : k = s.size := by omega
            go_wp2
            go_ret
            have HH := hd.out
            rw [List.take_of_length_le (Nat.le_of_eq (toList_length s))] at HH
            exact ⟨ret_bool (by rw [HR.out, HH]), rfl⟩
end Go.Proofs.YtbnbaokamccmjaaGreatDoor
