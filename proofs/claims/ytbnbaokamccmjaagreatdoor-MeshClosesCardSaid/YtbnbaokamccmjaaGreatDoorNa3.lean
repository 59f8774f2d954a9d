/- natural: merge, plus and minus: sums and differences of numbers in their normal form. -/
import Derived.Test.YtbnbaokamccmjaaGreatDoorNa2
import Derived.Test.YtbnbaokamccmjaaGreatDoorBa2
set_option linter.unusedVariables false
set_option linter.unusedSimpArgs false
namespace Go.Proofs.YtbnbaokamccmjaaGreatDoor
open Go Go.RowKit

/-- One word of a sum with a carry, by Go's own division. -/
theorem mstep_neg {t : Int} (h : t.tmod 1000000000 < 0) : t.tmod 1000000000 + 1000000000 = t % 1000000000 ∧ t.tdiv 1000000000 - 1 = t / 1000000000 := by
  have e := Int.tmod_add_mul_tdiv t 1000000000
  have h2 : -1000000000 < t.tmod 1000000000 := by
    rw [Int.tmod_eq_emod]
    split <;> omega
  omega
theorem mstep_pos {t : Int} (h : 0 ≤ t.tmod 1000000000) : t.tmod 1000000000 = t % 1000000000 ∧ t.tdiv 1000000000 = t / 1000000000 := by
  have e := Int.tmod_add_mul_tdiv t 1000000000
  have h2 : t.tmod 1000000000 < 1000000000 := by
    rw [Int.tmod_eq_emod]
    split <;> omega
  omega

/-- The value of a list's first words. -/
def pre (l : List Nat) (j : Nat) : Int := (val (l.take j) : Int)
theorem pre_zero (l : List Nat) : pre l 0 = 0 := rfl
theorem pre_all {l : List Nat} {j : Nat} (h : l.length ≤ j) : pre l j = val l := by rw [pre, List.take_of_length_le h]
theorem pre_succ {l : List Nat} {j : Nat} (h : j < l.length) : pre l (j + 1) = pre l j + (wB : Int) ^ j * wd l j := by
  rw [pre, pre, val_take_succ l j h]
  push_cast
  rfl
theorem pre_stop {l : List Nat} {j : Nat} (h : ¬ j < l.length) : pre l (j + 1) = pre l j := by rw [pre_all (by omega), pre_all (by omega)]
theorem pre_step (l : List Nat) (j : Nat) : pre l (j + 1) = pre l j + (wB : Int) ^ j * wd l j := by
  by_cases h : j < l.length
  · exact pre_succ h
  · rw [pre_stop h, wd_out h]; simp

/-- What holds of the words laid so far, the carry with them. -/
def Msum (a b : List Nat) (s : Int) (l : List Nat) (c : Int) : Prop := Okw l ∧ (val l : Int) + (wB : Int) ^ l.length * c = pre a l.length + s * pre b l.length ∧ -1 ≤ c ∧ c ≤ 1

theorem msum_next {a b : List Nat} {s : Int} {l : List Nat} {c t : Int} (h : Msum a b s l c) (hs : s = 1 ∨ s = -1) (ha : Okw a) (hb : Okw b) (ht : t = c + wd a l.length + s * wd b l.length) :
    Msum a b s (l ++ [(t % 1000000000).toNat]) (t / 1000000000) ∧ 0 ≤ t % 1000000000 ∧ t % 1000000000 < 1000000000 := by
  obtain ⟨h1, h2, h3, h4⟩ := h
  have e1 := ha.get l.length
  have e2 := hb.get l.length
  rw [wB_eq] at e1 e2
  change wd a l.length < _ at e1
  change wd b l.length < _ at e2
  have hm : 0 ≤ t % 1000000000 ∧ t % 1000000000 < 1000000000 := by omega
  refine ⟨⟨h1.append (Okw.cons (by rw [wB_eq]; omega) Okw.nil), ?_, ?_, ?_⟩, hm⟩
  · rw [List.length_append, List.length_singleton, val_snoc, pre_step, pre_step]
    have ht2 : ((t % 1000000000).toNat : Int) = t % 1000000000 := Int.toNat_of_nonneg hm.1
    have hd : t = t % 1000000000 + 1000000000 * (t / 1000000000) := by omega
    have hw : ((wB : Nat) : Int) = 1000000000 := rfl
    rw [Int.pow_succ]
    push_cast
    rw [ht2]
    generalize (wB : Int) ^ l.length = p at *
    generalize t % 1000000000 = r at *
    generalize t / 1000000000 = q at *
    rw [hw]
    have e3 : p * r + p * 1000000000 * q = p * c + p * wd a l.length + s * (p * wd b l.length) := by
      rw [show p * r + p * 1000000000 * q = p * (r + 1000000000 * q) by rw [Int.mul_add, Int.mul_assoc], ← hd, ht, Int.mul_add, Int.mul_add]
      rw [show p * (s * (wd b l.length : Int)) = s * (p * wd b l.length) by rw [← Int.mul_assoc, Int.mul_comm p s, Int.mul_assoc]]
    rw [Int.mul_add]
    omega
  · rcases hs with rfl | rfl <;> omega
  · rcases hs with rfl | rfl <;> omega

theorem msum_start (a b : List Nat) (s : Int) : Msum a b s [] 0 := ⟨Okw.nil, by simp [pre_zero, val], by omega, by omega⟩

/-- At the end the carry is 0 or 1, and what is laid has the value. -/
theorem msum_end {a b l : List Nat} {s c : Int} {L : Nat} (h : Msum a b s l c) (hl : l.length = L) (ha : a.length ≤ L) (hb : b.length ≤ L) (h0 : 0 ≤ (val a : Int) + s * val b) :
    0 ≤ c ∧ (c = 0 → (val l : Int) = val a + s * val b) ∧ (0 < c → c = 1 ∧ ((val (l ++ [1]) : Nat) : Int) = val a + s * val b ∧ Okw (l ++ [1])) := by
  obtain ⟨h1, h2, h3, h4⟩ := h
  rw [pre_all (by omega), pre_all (by omega)] at h2
  have hlt := val_lt h1
  have hlt' : (val l : Int) < (wB : Int) ^ l.length := by exact_mod_cast hlt
  have hc : 0 ≤ c := by
    rcases Int.lt_or_le c 0 with hc | hc
    · obtain rfl : c = -1 := by omega
      rw [Int.mul_neg, Int.mul_one] at h2
      omega
    · exact hc
  refine ⟨hc, fun e => ?_, fun e => ?_⟩
  · subst e
    rw [Int.mul_zero] at h2
    omega
  · obtain rfl : c = 1 := by omega
    refine ⟨rfl, ?_, h1.append (Okw.cons (by decide) Okw.nil)⟩
    rw [val_snoc, Nat.mul_one]
    push_cast
    rw [Int.mul_one] at h2
    exact h2

/-- What Go's remainder keeps to. -/
theorem tmod_gt (t : Int) : -999999999 ≤ t.tmod 1000000000 := by
  rw [Int.tmod_eq_emod]
  split <;> omega
theorem tmod_lt (t : Int) : t.tmod 1000000000 ≤ 999999999 := by
  rw [Int.tmod_eq_emod]
  split <;> omega
theorem tdiv_in {t : Int} (h1 : -2000000000 ≤ t) (h2 : t ≤ 2000000000) : -2 ≤ t.tdiv 1000000000 ∧ t.tdiv 1000000000 ≤ 2 := by
  have e := Int.tmod_add_mul_tdiv t 1000000000
  have := tmod_gt t
  have := tmod_lt t
  omega
theorem word_lt {l : List Nat} (h : Okw l) (j : Nat) : (wd l j : Int) ≤ 999999999 := by
  have := h.get j
  rw [wB_eq] at this
  change wd l j < _ at this
  omega
theorem word_neg {t : Int} (h : t.tmod 1000000000 < 0) : (Value.int .u32 (t.tmod 1000000000 + 1000000000)) = .int .u32 ((t % 1000000000).toNat : Int) := by
  rw [(mstep_neg h).1, Int.toNat_of_nonneg (by omega)]
theorem word_pos {t : Int} (h : 0 ≤ t.tmod 1000000000) : (Value.int .u32 (t.tmod 1000000000)) = .int .u32 ((t % 1000000000).toNat : Int) := by
  rw [(mstep_pos (by omega)).1, Int.toNat_of_nonneg (by omega)]
theorem wd_last (l : List Nat) (x : Nat) : wd (l ++ [x]) l.length = x := by
  rw [wd, List.getD_eq_getElem?_getD, List.getElem?_append_right (Nat.le_refl _), Nat.sub_self]; rfl

set_option maxRecDepth 100000 in
set_option maxHeartbeats 8000000 in
theorem merge_walk (v u : Value) (n m : Nat) (s : Int) (hs : s = 1 ∨ s = -1) (w : World) (h : Num w v n) (g : Num w u m) (h0 : 0 ≤ (n : Int) + s * m) (hf : (wds n).length ≤ 1000000000) (gf : (wds m).length ≤ 1000000000) :
    Calls Tryz.prog 217 #[v, u, .int .i64 s] w (Ret fun v' w' => ∃ l, Own w' w.heap.size v' l ∧ Okw l ∧ (val l : Int) = n + s * m ∧
      (l.length = max (wds n).length (wds m).length ∨ wd l (l.length - 1) ≠ 0) ∧ Below w.heap.size w w') := by
  obtain ⟨A, cap, rfl, hn, hc, hcell⟩ := h.open
  obtain ⟨B, cap', rfl, gn, gc, gcell⟩ := g.open
  clear h g
  have hmk := fun W => make_none 212 Tryz.underlying212 (((wds n).length : Int) + 1) ((wds n).length + 1) (by omega) (by omega) W
  have H0 := Lib.hid h0
  have Hs := Lib.hid hs
  clear h0 hs
  obtain ⟨L, hL⟩ : ∃ L, L = max (wds n).length (wds m).length := ⟨_, rfl⟩
  have HL := Lib.hid hL
  clear hL
  rcases Nat.lt_or_ge (wds n).length (wds m).length with hlt | hlt
  · go_enter Tryz.func217, Tryz.ntmps217
    go_wp2
    obtain rfl : L = (wds m).length := by have := HL.out; omega
    go_loopw [7, 8, 20] (fun vv cc kk wr => ∃ (l : List Nat) (c : Int), l.length ≤ (wds m).length ∧ Own wr w.heap.size vv l ∧ Msum (wds n) (wds m) s l c ∧ cc = .int .i64 c ∧ kk = .int .i64 l.length ∧ Below w.heap.size w wr) (fun _ _ kk _ => (wds m).length - (intOf kk).toNat)
    case atStart => exact ⟨[], 0, by simp, own_room _ _ (by omega), msum_start _ _ _, rfl, rfl, (Below.refl _ _).alloc (Nat.le_refl _) _⟩
    case round =>
      obtain ⟨l, c, hk, hown, hsum, rfl, rfl, hb⟩ := hrel
      by_cases hlt0 : l.length < (wds m).length
      · have hc1 := hsum.2.2.1
        have hc2 := hsum.2.2.2
        have hw1 : (wd (wds n) l.length : Int) ≤ 999999999 := word_lt (okw_wds n) _
        have hw2 : (wd (wds m) l.length : Int) ≤ 999999999 := word_lt (okw_wds m) _
        obtain ⟨y, hy⟩ : ∃ y : Int, y = s * (wd (wds m) l.length : Int) := ⟨_, rfl⟩
        have hy1 : -999999999 ≤ y := by rcases Hs.out with e | e <;> (rw [hy, e]; omega)
        have hy2 : y ≤ 999999999 := by rcases Hs.out with e | e <;> (rw [hy, e]; omega)
        have hyw : wrap64 (s * (wd (wds m) l.length : Int)) = y := by rw [← hy]; unfold wrap64; omega
        have hY := Lib.hid hy
        clear hy
        have hlt2 : l.length < (wds m).length := hlt0
        obtain ⟨b', off', rfl, gcl⟩ := gcell (by omega)
        have gck := cell_below hb (gcl l.length hlt2)
        clear gcl gcell
        by_cases hlt1 : l.length < (wds n).length
        · obtain ⟨b, off, rfl, hcl⟩ := hcell (by omega)
          have hck := cell_below hb (hcl l.length hlt1)
          clear hcl hcell
          have tm1 : -999999999 ≤ (c + (wd (wds n) l.length : Int) + y).tmod 1000000000 := tmod_gt _
          have tm2 : (c + (wd (wds n) l.length : Int) + y).tmod 1000000000 ≤ 999999999 := tmod_lt _
          obtain ⟨td1, td2⟩ := tdiv_in (t := (c + (wd (wds n) l.length : Int) + y)) (by omega) (by omega)
          have hT : c + (wd (wds n) l.length : Int) + y = c + wd (wds n) l.length + s * wd (wds m) l.length := by rw [hY.out]
          have hnext := msum_next hsum Hs.out (okw_wds n) (okw_wds m) hT
          have hN := Lib.hid hnext
          have hTT := Lib.hid hT
          clear hnext hT hsum
          go_wp2_with (at_builtin; refine append_word (w0 := w) w.heap.size rfl (.tmp 57) (.tmp 60) 212 rfl Tryz.underlying212 info_u32 _ l (((c + (wd (wds n) l.length : Int) + y) % 1000000000).toNat) _ (by first | exact word_neg (by assumption) | exact word_pos (by assumption)) rfl rfl hown hb hb.size (by omega) ?_; intro v1 w1 hown1 hb1 hg1)
          · go_roundw
            case rel => exact ⟨_, _, by rw [List.length_append, List.length_singleton]; omega, hown1, hN.out.1, by rw [(mstep_neg (by assumption)).2], by rw [List.length_append, List.length_singleton]; go_num, hb1⟩
            case measure => simp [intOf]; omega
          · go_roundw
            case rel => exact ⟨_, _, by rw [List.length_append, List.length_singleton]; omega, hown1, hN.out.1, by rw [(mstep_pos (by assumption)).2], by rw [List.length_append, List.length_singleton]; go_num, hb1⟩
            case measure => simp [intOf]; omega
        ·
          have tm1 : -999999999 ≤ (c + y).tmod 1000000000 := tmod_gt _
          have tm2 : (c + y).tmod 1000000000 ≤ 999999999 := tmod_lt _
          obtain ⟨td1, td2⟩ := tdiv_in (t := (c + y)) (by omega) (by omega)
          have hT : c + y = c + wd (wds n) l.length + s * wd (wds m) l.length := by rw [wd_out hlt1, hY.out]; simp
          have hnext := msum_next hsum Hs.out (okw_wds n) (okw_wds m) hT
          have hN := Lib.hid hnext
          have hTT := Lib.hid hT
          clear hnext hT hsum
          go_wp2_with (at_builtin; refine append_word (w0 := w) w.heap.size rfl (.tmp 57) (.tmp 60) 212 rfl Tryz.underlying212 info_u32 _ l (((c + y) % 1000000000).toNat) _ (by first | exact word_neg (by assumption) | exact word_pos (by assumption)) rfl rfl hown hb hb.size (by omega) ?_; intro v1 w1 hown1 hb1 hg1)
          · go_roundw
            case rel => exact ⟨_, _, by rw [List.length_append, List.length_singleton]; omega, hown1, hN.out.1, by rw [(mstep_neg (by assumption)).2], by rw [List.length_append, List.length_singleton]; go_num, hb1⟩
            case measure => simp [intOf]; omega
          · go_roundw
            case rel => exact ⟨_, _, by rw [List.length_append, List.length_singleton]; omega, hown1, hN.out.1, by rw [(mstep_pos (by assumption)).2], by rw [List.length_append, List.length_singleton]; go_num, hb1⟩
            case measure => simp [intOf]; omega
      · have hL : l.length = (wds m).length := by omega
        have hend := msum_end hsum hL (by omega) (by omega) (by rw [val_wds, val_wds]; exact H0.out)
        rw [val_wds, val_wds] at hend
        have hE := Lib.hid hend
        have hO := Lib.hid hsum.1
        have HLL := Lib.hid hL
        have hc0 := hend.1
        clear hend hsum hL
        by_cases hcz : 0 < c
        · obtain ⟨rfl, e2, e3⟩ := hE.out.2.2 hcz
          have E2 := Lib.hid e2
          clear e2 hcz
          go_wp2_with (at_builtin; refine append_word (w0 := w) w.heap.size rfl (.tmp 65) (.tmp 68) 212 rfl Tryz.underlying212 info_u32 _ l 1 _ rfl rfl rfl hown hb hb.size (by omega) ?_; intro v1 w1 hown1 hb1 hg1)
          go_ret
          exact ⟨_, rfl, _, hown1, e3, E2.out, .inr (by rw [List.length_append, List.length_singleton, Nat.add_sub_cancel, wd_last]; omega), hb1⟩
        · obtain rfl : c = 0 := by omega
          have e2 := hE.out.2.1 rfl
          have E2 := Lib.hid e2
          clear e2 hcz
          go_wp2
          go_ret
          exact ⟨_, rfl, _, hown, hO.out, E2.out, .inl (by have := HLL.out; omega), hb⟩
  · go_enter Tryz.func217, Tryz.ntmps217
    go_wp2
    obtain rfl : L = (wds n).length := by have := HL.out; omega
    go_loopw [7, 8, 20] (fun vv cc kk wr => ∃ (l : List Nat) (c : Int), l.length ≤ (wds n).length ∧ Own wr w.heap.size vv l ∧ Msum (wds n) (wds m) s l c ∧ cc = .int .i64 c ∧ kk = .int .i64 l.length ∧ Below w.heap.size w wr) (fun _ _ kk _ => (wds n).length - (intOf kk).toNat)
    case atStart => exact ⟨[], 0, by simp, own_room _ _ (by omega), msum_start _ _ _, rfl, rfl, (Below.refl _ _).alloc (Nat.le_refl _) _⟩
    case round =>
      obtain ⟨l, c, hk, hown, hsum, rfl, rfl, hb⟩ := hrel
      by_cases hlt0 : l.length < (wds n).length
      · have hc1 := hsum.2.2.1
        have hc2 := hsum.2.2.2
        have hw1 : (wd (wds n) l.length : Int) ≤ 999999999 := word_lt (okw_wds n) _
        have hw2 : (wd (wds m) l.length : Int) ≤ 999999999 := word_lt (okw_wds m) _
        obtain ⟨y, hy⟩ : ∃ y : Int, y = s * (wd (wds m) l.length : Int) := ⟨_, rfl⟩
        have hy1 : -999999999 ≤ y := by rcases Hs.out with e | e <;> (rw [hy, e]; omega)
        have hy2 : y ≤ 999999999 := by rcases Hs.out with e | e <;> (rw [hy, e]; omega)
        have hyw : wrap64 (s * (wd (wds m) l.length : Int)) = y := by rw [← hy]; unfold wrap64; omega
        have hY := Lib.hid hy
        clear hy
        have hlt1 : l.length < (wds n).length := hlt0
        obtain ⟨b, off, rfl, hcl⟩ := hcell (by omega)
        have hck := cell_below hb (hcl l.length hlt1)
        clear hcl hcell
        by_cases hlt2 : l.length < (wds m).length
        · obtain ⟨b', off', rfl, gcl⟩ := gcell (by omega)
          have gck := cell_below hb (gcl l.length hlt2)
          clear gcl gcell
          have tm1 : -999999999 ≤ (c + (wd (wds n) l.length : Int) + y).tmod 1000000000 := tmod_gt _
          have tm2 : (c + (wd (wds n) l.length : Int) + y).tmod 1000000000 ≤ 999999999 := tmod_lt _
          obtain ⟨td1, td2⟩ := tdiv_in (t := (c + (wd (wds n) l.length : Int) + y)) (by omega) (by omega)
          have hT : c + (wd (wds n) l.length : Int) + y = c + wd (wds n) l.length + s * wd (wds m) l.length := by rw [hY.out]
          have hnext := msum_next hsum Hs.out (okw_wds n) (okw_wds m) hT
          have hN := Lib.hid hnext
          have hTT := Lib.hid hT
          clear hnext hT hsum
          go_wp2_with (at_builtin; refine append_word (w0 := w) w.heap.size rfl (.tmp 57) (.tmp 60) 212 rfl Tryz.underlying212 info_u32 _ l (((c + (wd (wds n) l.length : Int) + y) % 1000000000).toNat) _ (by first | exact word_neg (by assumption) | exact word_pos (by assumption)) rfl rfl hown hb hb.size (by omega) ?_; intro v1 w1 hown1 hb1 hg1)
          · go_roundw
            case rel => exact ⟨_, _, by rw [List.length_append, List.length_singleton]; omega, hown1, hN.out.1, by rw [(mstep_neg (by assumption)).2], by rw [List.length_append, List.length_singleton]; go_num, hb1⟩
            case measure => simp [intOf]; omega
          · go_roundw
            case rel => exact ⟨_, _, by rw [List.length_append, List.length_singleton]; omega, hown1, hN.out.1, by rw [(mstep_pos (by assumption)).2], by rw [List.length_append, List.length_singleton]; go_num, hb1⟩
            case measure => simp [intOf]; omega
        ·
          have tm1 : -999999999 ≤ (c + (wd (wds n) l.length : Int)).tmod 1000000000 := tmod_gt _
          have tm2 : (c + (wd (wds n) l.length : Int)).tmod 1000000000 ≤ 999999999 := tmod_lt _
          obtain ⟨td1, td2⟩ := tdiv_in (t := (c + (wd (wds n) l.length : Int))) (by omega) (by omega)
          have hT : c + (wd (wds n) l.length : Int) = c + wd (wds n) l.length + s * wd (wds m) l.length := by rw [wd_out hlt2]; simp
          have hnext := msum_next hsum Hs.out (okw_wds n) (okw_wds m) hT
          have hN := Lib.hid hnext
          have hTT := Lib.hid hT
          clear hnext hT hsum
          go_wp2_with (at_builtin; refine append_word (w0 := w) w.heap.size rfl (.tmp 57) (.tmp 60) 212 rfl Tryz.underlying212 info_u32 _ l (((c + (wd (wds n) l.length : Int)) % 1000000000).toNat) _ (by first | exact word_neg (by assumption) | exact word_pos (by assumption)) rfl rfl hown hb hb.size (by omega) ?_; intro v1 w1 hown1 hb1 hg1)
          · go_roundw
            case rel => exact ⟨_, _, by rw [List.length_append, List.length_singleton]; omega, hown1, hN.out.1, by rw [(mstep_neg (by assumption)).2], by rw [List.length_append, List.length_singleton]; go_num, hb1⟩
            case measure => simp [intOf]; omega
          · go_roundw
            case rel => exact ⟨_, _, by rw [List.length_append, List.length_singleton]; omega, hown1, hN.out.1, by rw [(mstep_pos (by assumption)).2], by rw [List.length_append, List.length_singleton]; go_num, hb1⟩
            case measure => simp [intOf]; omega
      · have hL : l.length = (wds n).length := by omega
        have hend := msum_end hsum hL (by omega) (by omega) (by rw [val_wds, val_wds]; exact H0.out)
        rw [val_wds, val_wds] at hend
        have hE := Lib.hid hend
        have hO := Lib.hid hsum.1
        have HLL := Lib.hid hL
        have hc0 := hend.1
        clear hend hsum hL
        by_cases hcz : 0 < c
        · obtain ⟨rfl, e2, e3⟩ := hE.out.2.2 hcz
          have E2 := Lib.hid e2
          clear e2 hcz
          go_wp2_with (at_builtin; refine append_word (w0 := w) w.heap.size rfl (.tmp 65) (.tmp 68) 212 rfl Tryz.underlying212 info_u32 _ l 1 _ rfl rfl rfl hown hb hb.size (by omega) ?_; intro v1 w1 hown1 hb1 hg1)
          go_ret
          exact ⟨_, rfl, _, hown1, e3, E2.out, .inr (by rw [List.length_append, List.length_singleton, Nat.add_sub_cancel, wd_last]; omega), hb1⟩
        · obtain rfl : c = 0 := by omega
          have e2 := hE.out.2.1 rfl
          have E2 := Lib.hid e2
          clear e2 hcz
          go_wp2
          go_ret
          exact ⟨_, rfl, _, hown, hO.out, E2.out, .inl (by have := HLL.out; omega), hb⟩

/-- A sum of two numbers has no zero at its end. -/
theorem sum_lnz {n m : Nat} {l : List Nat} (ho : Okw l) (hv : val l = n + m) (h : l.length = max (wds n).length (wds m).length ∨ wd l (l.length - 1) ≠ 0) : l = wds (n + m) := by
  rw [← hv]
  refine (wds_of_lnz ho ?_).symm
  rcases h with h | h
  · by_cases h0 : l.length = 0
    · exact .inl (List.length_eq_zero_iff.1 h0)
    · refine .inr fun hz => ?_
      have e := val_take_succ l (l.length - 1) (by omega)
      rw [show l.length - 1 + 1 = l.length by omega, List.take_of_length_le (Nat.le_refl _), hz, Nat.mul_zero, Nat.add_zero] at e
      have h1 := val_lt (ho.take (l.length - 1))
      rw [List.length_take, Nat.min_eq_left (by omega)] at h1
      rcases Nat.le_total (wds n).length (wds m).length with h2 | h2
      · have h3 := le_of_wds_length (n := m) (k := l.length - 1) (by omega)
        omega
      · have h3 := le_of_wds_length (n := n) (k := l.length - 1) (by omega)
        omega
  · exact .inr h

set_option maxHeartbeats 400000 in
theorem plus_walk (v u : Value) (n m : Nat) (w : World) (h : Num w v n) (g : Num w u m) (hf : (wds n).length ≤ 1000000000) (gf : (wds m).length ≤ 1000000000) :
    Calls Tryz.prog 195 #[v, u] w (Ret fun v' w' => NumO w' w.heap.size v' (n + m) ∧ Below w.heap.size w w') := by
  go_enter Tryz.func195, Tryz.ntmps195
  go_wp2_with fail
  refine (merge_walk v u n m 1 (.inl rfl) w h g (by omega) hf gf).mono ?_
  rintro e w1 ⟨v1, rfl, l, h1, h2, h3, h4, h5⟩
  go_wp2
  go_ret
  have e := sum_lnz h2 (by omega) h4
  subst e
  exact ⟨_, rfl, h1, h5⟩

set_option maxHeartbeats 400000 in
theorem minus_walk (v u : Value) (n m : Nat) (hle : m ≤ n) (w : World) (h : Num w v n) (g : Num w u m) (hf : (wds n).length ≤ 1000000000) (gf : (wds m).length ≤ 1000000000) :
    Calls Tryz.prog 197 #[v, u] w (Ret fun v' w' => NumO w' w.heap.size v' (n - m) ∧ Below w.heap.size w w') := by
  go_enter Tryz.func197, Tryz.ntmps197
  go_wp2_with fail
  refine (merge_walk v u n m (-1) (.inr rfl) w h g (by omega) hf gf).mono ?_
  rintro e w1 ⟨v1, rfl, l, h1, h2, h3, h4, h5⟩
  obtain ⟨A, cap, rfl, _, _⟩ := h1.form
  go_wp2_with fail
  refine (trim_walk A l cap w1 h1.u32 h2).mono ?_
  rintro e w2 ⟨rfl, rfl⟩
  go_wp2
  go_ret
  have e : val l = n - m := by omega
  have := h1.trim h2
  rw [e] at this ⊢
  exact ⟨_, rfl, this, h5⟩
end Go.Proofs.YtbnbaokamccmjaaGreatDoor
