/- natural: trim, of, small and compare: what each returns, for every number in its normal form. -/
import Derived.Test.YtbnbaokamccmjaaGreatDoorBa1
set_option linter.unusedVariables false
set_option linter.unusedSimpArgs false
namespace Go.Proofs.YtbnbaokamccmjaaGreatDoor
open Go Go.RowKit

theorem trim_len {l : List Nat} {k : Nat} (ho : Okw l) (hk : k ≤ l.length) (hz : ∀ j, k ≤ j → j < l.length → wd l j = 0) (hl : k = 0 ∨ wd l (k - 1) ≠ 0) : k = (wds (val l)).length := by
  rw [← take_eq_wds ho hk hz hl, List.length_take, Nat.min_eq_left hk]

set_option maxHeartbeats 400000 in
theorem trim_walk (A : Option Addr) (l : List Nat) (cap : Nat) (w : World) (h : U32 w (.slice A l.length cap) l) (ho : Okw l) :
    Calls Tryz.prog 194 #[.slice A l.length cap] w fun e w' => e = .returned (.slice A (wds (val l)).length cap) ∧ w' = w := by
  obtain ⟨A', cap', hv, hn, hc, hcell⟩ := h.open
  cases hv
  go_enter Tryz.func194, Tryz.ntmps194
  go_wp2
  go_loop [0] (fun s => ∃ k : Nat, k ≤ l.length ∧ (∀ j, k ≤ j → j < l.length → wd l j = 0) ∧ s = .slice A k cap) (fun s => match s with | .slice _ n _ => n | _ => 0)
  case atStart => exact ⟨l.length, Nat.le_refl _, fun j h1 h2 => by omega, rfl⟩
  case round =>
    obtain ⟨k, hk, hz, rfl⟩ := hrel
    have hz' := Lib.hid hz
    clear hz
    by_cases h0 : k = 0
    · subst h0
      go_wp2
      go_ret
      have := trim_len ho hk hz'.out (.inl rfl)
      exact ⟨by rw [← this]; rfl, rfl⟩
    · obtain ⟨b, off, rfl, hcl⟩ := hcell (by omega)
      have hck := hcl (k - 1) (by omega)
      by_cases hw : wd l (k - 1) = 0
      · have hb : ((wd l (k - 1) : Int) == 0) = true := by rw [hw]; rfl
        go_wp2
        go_round
        case rel =>
          refine ⟨k - 1, by omega, fun j h1 h2 => ?_, rfl⟩
          by_cases e : j = k - 1
          · rw [e]; exact hw
          · exact hz'.out j (by omega) h2
        case measure => simp; omega
      · have hb : ((wd l (k - 1) : Int) == 0) = false := by simp; omega
        go_wp2
        go_ret
        have := trim_len ho hk hz'.out (.inr hw)
        exact ⟨by rw [← this]; rfl, rfl⟩

/-- A row of the call's own, of words. -/
def Own (w : World) (base : Nat) (v : Value) (l : List Nat) : Prop := w.ownsRow base 184 1 v l.length (u32s l)
/-- A number in a row of the call's own. -/
def NumO (w : World) (base : Nat) (v : Value) (n : Nat) : Prop := Own w base v (wds n)
theorem Own.u32 {w : World} {base : Nat} {v : Value} {l : List Nat} (h : Own w base v l) : U32 w v l := U32.own h
theorem NumO.num {w : World} {base : Nat} {v : Value} {n : Nat} (h : NumO w base v n) : Num w v n := U32.own h
theorem Own.below {w w1 : World} {base : Nat} {v : Value} {l : List Nat} (h : Own w base v l) (hb : Below w.heap.size w w1) : Own w1 base v l :=
  World.ownsRow.kept (row := none) h ⟨hb.os, hb.tape, hb.output, hb.size, fun k hk _ => hb.block k hk⟩ (by cases v.ownBlock <;> simp)
theorem NumO.below {w w1 : World} {base : Nat} {v : Value} {n : Nat} (h : NumO w base v n) (hb : Below w.heap.size w w1) : NumO w1 base v n := Own.below h hb
theorem Own.base {w : World} {base base' : Nat} {v : Value} {l : List Nat} (h : Own w base v l) (hb : base' ≤ base) : Own w base' v l := by
  refine ⟨h.1, ?_⟩
  rcases h.2 with h1 | ⟨g, cap, cur, h1, h2, h3⟩
  · exact .inl h1
  · exact .inr ⟨g, cap, cur, h1, Nat.le_trans hb h2, h3⟩
theorem Own.take {w : World} {base : Nat} {A : Option Addr} {cap : Nat} {l : List Nat} (h : Own w base (.slice A l.length cap) l) (k : Nat) (hk : k ≤ l.length) : Own w base (.slice A k cap) (l.take k) := by
  have e : (l.take k).length = k := by rw [List.length_take, Nat.min_eq_left hk]
  refine ⟨by rw [u32s_length, Nat.mul_one], ?_⟩
  rw [e]
  rcases h.2 with ⟨h1, h0⟩ | ⟨g, cap', cur, h1, h2, h3, h4, h5, h6, h7⟩
  · simp only [Value.slice.injEq] at h1
    obtain ⟨rfl, h2, rfl⟩ := h1
    exact .inl ⟨by rw [show k = 0 by omega], by omega⟩
  · simp only [Value.slice.injEq] at h1
    obtain ⟨rfl, _, rfl⟩ := h1
    refine .inr ⟨g, cap, cur, rfl, h2, h3, by omega, h5, h6, ?_⟩
    rw [Nat.mul_one] at h7 ⊢
    rw [show u32s (l.take k) = (u32s l).take k by simp [u32s], ← h7, List.take_take, Nat.min_eq_left hk]
theorem NumO.base {w : World} {base base' : Nat} {v : Value} {n : Nat} (h : NumO w base v n) (hb : base' ≤ base) : NumO w base' v n := Own.base h hb
/-- What trim leaves of a row of the call's own. -/
theorem Own.trim {w : World} {base : Nat} {A : Option Addr} {cap : Nat} {l : List Nat} (h : Own w base (.slice A l.length cap) l) (ho : Okw l) : NumO w base (.slice A (wds (val l)).length cap) (val l) := by
  obtain ⟨e, hl⟩ := take_wds ho
  have := h.take _ hl
  rw [e] at this
  exact this
theorem Own.form {w : World} {base : Nat} {v : Value} {l : List Nat} (h : Own w base v l) : ∃ A cap, v = .slice A l.length cap ∧ l.length ≤ cap ∧ cap ≤ 9223372036854775807 := by
  obtain ⟨A, cap, hv, h1, h2, _⟩ := h.u32.open
  exact ⟨A, cap, hv, h1, h2⟩

set_option maxHeartbeats 400000 in
theorem of_walk (x : Nat) (hx : x < wB * wB) (w : World) :
    Calls Tryz.prog 208 #[.int .u64 x] w (Ret fun v w' => NumO w' w.heap.size v x ∧ Below w.heap.size w w') := by
  have hx' : (x : Int) < 1000000000000000000 := by rw [wB_eq] at hx; omega
  have hx0 : (0 : Int) ≤ x := by omega
  go_enter Tryz.func208, Tryz.ntmps208
  go_wp2_with fail
  have hv : val [x % wB, x / wB] = x := by simp only [val, Nat.mul_zero, Nat.add_zero]; exact Nat.mod_add_div x wB
  have ho : Okw [x % wB, x / wB] := Okw.cons (Nat.mod_lt _ wB_pos) (Okw.cons (by rw [Nat.div_lt_iff_lt_mul wB_pos]; exact hx) Okw.nil)
  have hcs : (#[Value.int IntKind.u32 ((x : Int) % 1000000000), Value.int IntKind.u32 ((x : Int) / 1000000000)] : Array Value) = (u32s [x % wB, x / wB]).toArray := by
    simp [u32s, wB_eq]
  have hown : Own (w.alloc (.cells #[Value.int IntKind.u32 ((x : Int) % 1000000000), Value.int IntKind.u32 ((x : Int) / 1000000000)] 184)) w.heap.size (.slice (some ⟨w.heap.size, 0, none⟩) 2 2) [x % wB, x / wB] := by
    rw [hcs]
    exact World.ownsRow_lit (base := w.heap.size) (size := 1) w (u32s [x % wB, x / wB]).toArray 2 (Nat.le_refl _) (by decide) rfl
  refine (trim_walk _ [x % wB, x / wB] 2 _ hown.u32 ho).mono ?_
  rintro e w1 ⟨rfl, rfl⟩
  have H := hown.trim ho
  rw [hv] at H ⊢
  go_wp2
  go_ret
  exact ⟨_, rfl, H, (Below.refl _ _).alloc (Nat.le_refl _) _⟩

theorem wds_len1 {n : Nat} (h : (wds n).length = 1) : wd (wds n) 0 = n ∧ n < wB ∧ n ≠ 0 := by
  have hv := val_wds n
  have ho := okw_wds n
  match hl : wds n, h with
  | [x], _ =>
    rw [hl] at hv ho
    simp only [val, Nat.mul_zero, Nat.add_zero] at hv
    subst hv
    refine ⟨rfl, ho.head, fun e => ?_⟩
    rw [e, wds_zero] at hl
    cases hl
theorem wds_len2 {n : Nat} (h : (wds n).length = 2) : wd (wds n) 0 + wB * wd (wds n) 1 = n ∧ wd (wds n) 0 < wB ∧ wd (wds n) 1 < wB ∧ n < wB * wB := by
  have hv := val_wds n
  have ho := okw_wds n
  have hlt := lt_wds_pow n
  rw [h, Nat.pow_two] at hlt
  match hl : wds n, h with
  | [x, y], _ =>
    rw [hl] at hv ho
    simp only [val, Nat.mul_zero, Nat.add_zero] at hv
    exact ⟨hv, ho.head, ho.tail.head, hlt⟩
theorem wds_len_lt {n : Nat} (h : n < wB * wB) : (wds n).length ≤ 2 := wds_lt_pow (by rw [Nat.pow_two]; exact h)
theorem wds_len_ge {n : Nat} (h : wB * wB ≤ n) : 3 ≤ (wds n).length := by
  rcases Nat.lt_or_ge (wds n).length 3 with h1 | h1
  · have := lt_wds_pow n
    have h2 : wB ^ (wds n).length ≤ wB ^ 2 := Nat.pow_le_pow_right wB_pos (by omega)
    rw [Nat.pow_two] at h2
    omega
  · exact h1

/-- small: a number of at most two words, and whether it is one. -/
def smallOf (n : Nat) : Nat := if n < wB * wB then n else 0

set_option maxHeartbeats 400000 in
theorem small_walk (v : Value) (n : Nat) (w : World) (h : Num w v n) :
    Calls Tryz.prog 207 #[v] w fun e w' => e = .returned (.tuple #[.int .u64 (smallOf n : Nat), .bool (decide (n < wB * wB))]) ∧ Below w.heap.size w w' := by
  obtain ⟨A, cap, rfl, hn, hc, hcell⟩ := h.open
  by_cases hs : n < wB * wB
  · have hle := wds_len_lt hs
    rw [smallOf, if_pos hs, decide_eq_true hs]
    have Hs := Lib.hid hs
    clear hs
    by_cases h0 : (wds n).length = 0
    · have e0 : n = 0 := by rw [← wds_eq_nil]; exact List.length_eq_zero_iff.1 h0
      subst e0
      rw [wds_zero] at *
      go_enter Tryz.func207, Tryz.ntmps207
      go_wp2
      go_ret2
      exact ⟨rfl, Below.refl _ _⟩
    · by_cases h1 : (wds n).length = 1
      · obtain ⟨b, off, rfl, hcl⟩ := hcell (by omega)
        have hc0 := hcl 0 (by omega)
        obtain ⟨e0, e1, _⟩ := wds_len1 h1
        rw [e0, Nat.add_zero] at hc0
        rw [wB_eq] at e1
        rw [h1] at *
        clear hcl hcell e0
        go_enter Tryz.func207, Tryz.ntmps207
        go_wp2
        go_ret2
        exact ⟨rfl, Below.refl _ _⟩
      · have h2 : (wds n).length = 2 := by omega
        obtain ⟨b, off, rfl, hcl⟩ := hcell (by omega)
        have hc0 := hcl 0 (by omega)
        have hc1 := hcl 1 (by omega)
        obtain ⟨e0, e1, e2, e3⟩ := wds_len2 h2
        rw [Nat.add_zero] at hc0
        rw [wB_eq] at e0 e1 e2 e3
        generalize wd (wds n) 0 = x at *
        generalize wd (wds n) 1 = y at *
        have E0 := Lib.hid e0
        clear e0
        rw [h2] at *
        clear hcl hcell
        go_enter Tryz.func207, Tryz.ntmps207
        go_wp2
        go_quiet (fail)
        go_wp2
        go_ret2
        have e4 : (n : Int) = x + 1000000000 * y := by have := E0.out; omega
        exact ⟨by rw [e4]; rfl, below_drewN (Below.refl _ _) _⟩
  · have hge := wds_len_ge (Nat.le_of_not_lt hs)
    rw [smallOf, if_neg hs, decide_eq_false hs]
    clear hs
    have k0 : (((wds n).length : Int) == 0) = false := beq_eq_false_iff_ne.2 (by omega)
    have k1 : (((wds n).length : Int) == 1) = false := beq_eq_false_iff_ne.2 (by omega)
    have k2 : (((wds n).length : Int) == 2) = false := beq_eq_false_iff_ne.2 (by omega)
    go_enter Tryz.func207, Tryz.ntmps207
    go_wp2
    go_ret2
    exact ⟨rfl, Below.refl _ _⟩
end Go.Proofs.YtbnbaokamccmjaaGreatDoor
