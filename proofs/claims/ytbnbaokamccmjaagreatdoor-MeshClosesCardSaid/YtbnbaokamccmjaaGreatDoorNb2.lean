/- natural: read: the number that a text of digits says. -/
import Derived.Test.YtbnbaokamccmjaaGreatDoorNb1
set_option linter.unusedVariables false
set_option linter.unusedSimpArgs false
namespace Go.Proofs.YtbnbaokamccmjaaGreatDoor
open Go Go.RowKit

/-- The state of read's loop: k bytes are left, the words ws are read. -/
def Rst (l : List UInt8) (k : Nat) (ws : List Nat) : Prop := k ≤ l.length ∧ Okw ws ∧ natOf l = val ws + wB ^ ws.length * natOf (l.take k)
theorem rst_start (l : List UInt8) : Rst l l.length [] := ⟨Nat.le_refl _, Okw.nil, by simp [val]⟩
theorem rst_word {l : List UInt8} (hd : digs l = true) {k : Nat} (hk : 0 < k) (hl : k ≤ l.length) : Lib.parseUintB 32 ((l.take k).drop (k - 9)) = .ok (natOf ((l.take k).drop (k - 9))) ∧ natOf ((l.take k).drop (k - 9)) ≤ 999999999 := by
  have h1 := digs_drop (digs_take hd k) (k - 9)
  have h2 : ((l.take k).drop (k - 9)).length = k - (k - 9) := by rw [List.length_drop, List.length_take, Nat.min_eq_left hl]
  refine ⟨parse_word h1 (fun e => ?_) (by omega) 32 (Nat.le_refl _), ?_⟩
  · rw [e] at h2; simp only [List.length_nil] at h2; omega
  · have h3 := natOf_lt h1
    have h4 : 10 ^ ((l.take k).drop (k - 9)).length ≤ 10 ^ 9 := Nat.pow_le_pow_right (by omega) (by omega)
    have h5 : (10 : Nat) ^ 9 = 999999999 + 1 := by decide
    exact Nat.le_of_lt_succ (Nat.lt_of_lt_of_le (Nat.lt_of_lt_of_le h3 h4) (Nat.le_of_eq h5))
theorem rst_next {l : List UInt8} (hd : digs l = true) {k : Nat} {ws : List Nat} (hk : 0 < k) (h : Rst l k ws) : Rst l (k - 9) (ws ++ [natOf ((l.take k).drop (k - 9))]) := by
  obtain ⟨hl, ho, hv⟩ := h
  have hw := (rst_word hd hk hl).2
  refine ⟨by omega, ho.append (Okw.cons (by rw [wB_eq]; omega) Okw.nil), ?_⟩
  have e1 : natOf (l.take k) = natOf ((l.take k).drop (k - 9)) + wB * natOf (l.take (k - 9)) := by
    have e := natOf_append ((l.take k).take (k - 9)) ((l.take k).drop (k - 9))
    rw [List.take_append_drop] at e
    have e2 : (l.take k).take (k - 9) = l.take (k - 9) := by rw [List.take_take, Nat.min_eq_left (by omega)]
    rw [e2] at e
    have h2 : ((l.take k).drop (k - 9)).length = k - (k - 9) := by rw [List.length_drop, List.length_take, Nat.min_eq_left hl]
    rw [h2] at e
    rw [e]
    by_cases h9 : 9 ≤ k
    · rw [show k - (k - 9) = 9 by omega, ← wB_pow, Nat.mul_comm wB, Nat.add_comm]
    · rw [show k - 9 = 0 by omega, List.take_zero, natOf_nil, Nat.zero_mul, Nat.mul_zero, Nat.zero_add, Nat.add_zero]
  rw [hv, val_append, List.length_append, List.length_singleton, Nat.pow_succ]
  conv => lhs; rw [e1]
  simp only [val, Nat.mul_zero, Nat.add_zero]
  rw [Nat.mul_add, Nat.add_assoc, Nat.mul_assoc]
theorem rst_end {l : List UInt8} {ws : List Nat} (h : Rst l 0 ws) : natOf l = val ws := by
  have := h.2.2
  rw [List.take_zero, natOf_nil, Nat.mul_zero, Nat.add_zero] at this
  exact this

theorem ext_list (t : ByteArray) (a b : Nat) : (t.extract a b).data.toList = (t.data.toList.take b).drop a := by
  rw [ByteArray.data_extract, Array.toList_extract, List.extract_eq_drop_take']

theorem own_nil (w : World) (base : Nat) : Own w base (.slice none 0 0) [] := ⟨rfl, .inl ⟨rfl, rfl⟩⟩
/-- Where read's loop stands. -/
def ReadAt (s : ByteArray) (w : World) (ss vv : Value) (wr : World) : Prop := ∃ (t : ByteArray) (k : Nat) (ws : List Nat), ss = .string t ∧ t.size = k ∧ Hid (t.data.toList = s.data.toList.take k) ∧ ws.length + k ≤ 100000000 ∧ Hid (Rst s.data.toList k ws) ∧ Own wr w.heap.size vv ws ∧ Below w.heap.size w wr
def sizeOf' (v : Value) : Nat := match v with | .string t => t.size | _ => 0

set_option maxHeartbeats 1000000 in
theorem read_walk (s : ByteArray) (hs : s.size ≤ 100000000) (hd : digs s.data.toList = true) (w : World) :
    Calls Tryz.prog 192 #[.string s] w (Ret fun v w' => NumO w' w.heap.size v (natOf s.data.toList) ∧ Below w.heap.size w w') := by
  have HD := Lib.hid hd
  clear hd
  go_enter Tryz.func192, Tryz.ntmps192
  go_wp2
  go_loopw [0, 3] (fun ss vv wr => ReadAt s w ss vv wr) (fun ss _ _ => sizeOf' ss)
  case atStart =>
    exact ⟨s, s.data.toList.length, [], rfl, (toList_length s).symm, Lib.hid (by rw [List.take_length]), by rw [toList_length, List.length_nil]; omega, Lib.hid (rst_start _), own_nil w _, Below.refl _ _⟩
  case round =>
    obtain ⟨t, k, ws, rfl, hk, ht, hk9, hst, hown, hb⟩ := hrel
    by_cases h0 : k = 0
    · have ho := hst.out.2.1
      have he := rst_end (by rw [h0] at hst; exact hst.out)
      rw [h0] at hk
      go_wp2_with fail
      obtain ⟨A, cap, rfl, hc1, hc2⟩ := hown.form
      refine (trim_walk A ws cap wr hown.u32 ho).mono ?_
      rintro e w2 ⟨rfl, rfl⟩
      have hT := hown.trim ho
      go_wp2
      go_ret
      rw [he]
      exact ⟨_, rfl, hT, hb⟩
    · have hkp : 0 < k := by omega
      have hk9' : (k : Int) ≤ 100000000 := by omega
      have hK9 := Lib.hid hk9
      have em : max ((k : Int) - 9) 0 = ((k - 9 : Nat) : Int) := by omega
      have hle : k - 9 ≤ k := by omega
      have HW := Lib.hid (show ws.length < 10000000000000 by omega)
      clear h0 hk9 hs
      have hlen := Lib.hid hst.out.1
      have hpw := Lib.hid (rst_word HD.out hkp hst.out.1)
      have hnx := Lib.hid (rst_next HD.out hkp hst.out)
      have hxe : (t.extract (k - 9) k).data.toList = (s.data.toList.take k).drop (k - 9) := by rw [ext_list, ht.out, List.take_take, Nat.min_self]
      have hye : (t.extract 0 (k - 9)).data.toList = s.data.toList.take (k - 9) := by rw [ext_list, ht.out, List.take_take, Nat.min_eq_left hle, List.drop_zero]
      have hxs : (t.extract (k - 9) k).size ≤ 9223372036854775806 := by rw [← toList_length, hxe, List.length_drop, List.length_take]; omega
      have hsz : Hid ((t.extract 0 (k - 9)).size = k - 9) := Lib.hid (by rw [← toList_length, hye, List.length_take, Nat.min_eq_left (by have := hlen.out; omega)])
      generalize hy : natOf ((s.data.toList.take k).drop (k - 9)) = y at *
      generalize hat : k - 9 = at' at *
      go_wp2_with fail
      refine (parseUint_walk _ hxs y (by rw [hxe]; exact hpw.out.1) wr).mono ?_
      rintro e w2 ⟨rfl, g2⟩
      have hown2 := hown.below g2
      have hb2 := below_then hb hb.size g2
      have hyw : IntKind.u32.wrap (y : Int) = y := by have := hpw.out.2; rw [IntKind.wrap_u32]; omega
      clear hxs hk9'
      go_wp2_with (at_builtin; refine append_word (w0 := w) w.heap.size rfl (.tmp 21) (.tmp 24) 212 rfl Tryz.underlying212 info_u32 _ ws y _ (by first | rfl | rw [hyw]) rfl rfl hown2 hb2 hb2.size HW.out ?_; intro v1 w1 hown1 hb1 hg1)
      go_round
      case rel =>
        refine ⟨t.extract 0 at', at', ws ++ [y], rfl, hsz.out, Lib.hid hye, ?_, hnx, hown1, hb1⟩
        have := hK9.out
        rw [List.length_append, List.length_singleton]
        omega
      case measure =>
        show (t.extract 0 at').size < t.size
        rw [hsz.out, hk]
        omega
end Go.Proofs.YtbnbaokamccmjaaGreatDoor
