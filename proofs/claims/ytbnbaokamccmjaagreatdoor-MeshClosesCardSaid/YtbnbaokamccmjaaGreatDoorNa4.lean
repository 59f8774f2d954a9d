/- natural: times: products of numbers in their normal form. -/
import Derived.Test.YtbnbaokamccmjaaGreatDoorNa3
set_option linter.unusedVariables false
set_option linter.unusedSimpArgs false
namespace Go.Proofs.YtbnbaokamccmjaaGreatDoor
open Go Go.RowKit

/-- What holds behind i rows of a product: the words laid, and that all behind them is 0. -/
def Mrow (a b : List Nat) (i : Nat) (l : List Nat) : Prop := l.length = a.length + b.length ∧ Okw l ∧ val l = preN a i * val b ∧ ∀ j, i + b.length ≤ j → wd l j = 0
/-- What holds within row i, behind k words, the carry with them. -/
def Mcol (a b : List Nat) (i k : Nat) (l : List Nat) (c : Nat) : Prop := l.length = a.length + b.length ∧ Okw l ∧ c ≤ 999999999 ∧ val l + wB ^ (i + k) * c = preN a i * val b + wB ^ i * wd a i * preN b k ∧ ∀ j, i + b.length ≤ j → wd l j = 0

theorem mrow_start (a b : List Nat) : Mrow a b 0 (List.replicate (a.length + b.length) 0) := by
  refine ⟨by simp, Okw.replicate _, by rw [val_replicate, preN_zero, Nat.zero_mul], fun j _ => ?_⟩
  unfold wd
  rw [List.getD_eq_getElem?_getD, List.getElem?_replicate]
  split <;> rfl
theorem mcol_start {a b l : List Nat} {i : Nat} (h : Mrow a b i l) : Mcol a b i 0 l 0 :=
  ⟨h.1, h.2.1, by omega, by rw [h.2.2.1, preN_zero, Nat.mul_zero, Nat.mul_zero], h.2.2.2⟩
theorem mcol_next {a b l : List Nat} {i k c s : Nat} (h : Mcol a b i k l c) (ha : Okw a) (hb : Okw b) (hi : i < a.length) (hk : k < b.length) (hs : s = c + wd a i * wd b k + wd l (i + k)) :
    Mcol a b i (k + 1) (l.set (i + k) (s % wB)) (s / wB) := by
  obtain ⟨h1, h2, h3, h4, h5⟩ := h
  have hx := ha.get i
  have hy := hb.get k
  have hz := h2.get (i + k)
  change wd a i < _ at hx
  change wd b k < _ at hy
  change wd l (i + k) < _ at hz
  rw [wB_eq] at hx hy hz
  have hxy : wd a i * wd b k ≤ 999999999 * 999999999 := Nat.mul_le_mul (by omega) (by omega)
  refine ⟨by rw [List.length_set]; exact h1, h2.set _ _ (Nat.mod_lt _ wB_pos), ?_, ?_, fun j hj => ?_⟩
  · have : s / wB < 1000000000 := by
      rw [Nat.div_lt_iff_lt_mul wB_pos, wB_eq]; omega
    omega
  · have e := val_set (l := l) (j := i + k) (by omega) (s % wB)
    rw [preN_succ hk, ← Nat.add_assoc, Nat.pow_succ]
    have e2 : wB ^ (i + k) * wB * (s / wB) = wB ^ (i + k) * (wB * (s / wB)) := Nat.mul_assoc _ _ _
    have e3 : wB ^ (i + k) * (s % wB) + wB ^ (i + k) * (wB * (s / wB)) = wB ^ (i + k) * s := by rw [← Nat.mul_add, Nat.mod_add_div]
    have e4 : wB ^ (i + k) * s = wB ^ (i + k) * c + wB ^ (i + k) * (wd a i * wd b k) + wB ^ (i + k) * wd l (i + k) := by rw [hs, Nat.mul_add, Nat.mul_add]
    have e5 : wB ^ i * wd a i * (wB ^ k * wd b k) = wB ^ (i + k) * (wd a i * wd b k) := by
      rw [Nat.pow_add]
      ac_rfl
    rw [e2, Nat.mul_add, e5]
    omega
  · rw [wd_set (by omega), if_neg (by omega)]
    exact h5 j hj
theorem mcol_end {a b l : List Nat} {i c : Nat} (h : Mcol a b i b.length l c) (hi : i < a.length) : Mrow a b (i + 1) (l.set (i + b.length) c) := by
  obtain ⟨h1, h2, h3, h4, h5⟩ := h
  refine ⟨by rw [List.length_set]; exact h1, h2.set _ _ (by rw [wB_eq]; omega), ?_, fun j hj => ?_⟩
  · have e := val_set (l := l) (j := i + b.length) (by omega) c
    rw [h5 _ (Nat.le_refl _), Nat.mul_zero, Nat.add_zero] at e
    rw [e, h4, preN_all (Nat.le_refl _), preN_succ hi, Nat.add_mul]
  · rw [wd_set (by omega), if_neg (by omega)]
    exact h5 j (by omega)

theorem word_div (c p z : Nat) : Value.int .u64 (((c : Int) + ((p : Int) + (z : Int))) / 1000000000) = .int .u64 (((c + p + z) / wB : Nat) : Int) := by
  rw [wB_eq]; congr 1; omega
theorem word_mod (c p z : Nat) : Value.int .u32 (((c : Int) + ((p : Int) + (z : Int))) % 1000000000) = .int .u32 (((c + p + z) % wB : Nat) : Int) := by
  rw [wB_eq]; congr 1; omega

set_option maxRecDepth 100000 in
set_option maxHeartbeats 4000000 in
theorem times_walk (v u : Value) (n m : Nat) (w : World) (h : Num w v n) (g : Num w u m) (hf : (wds n).length ≤ 1000000000) (gf : (wds m).length ≤ 1000000000) :
    Calls Tryz.prog 177 #[v, u] w (Ret fun v' w' => NumO w' w.heap.size v' (n * m) ∧ Below w.heap.size w w') := by
  obtain ⟨A, cap, rfl, hn, hc, hcell⟩ := h.open
  obtain ⟨B, cap', rfl, gn, gc, gcell⟩ := g.open
  clear h g
  have hmk := fun W => make_full 212 Tryz.underlying212 (((wds n).length : Int) + (wds m).length) ((wds n).length + (wds m).length) (by omega) (by omega) W
  go_enter Tryz.func177, Tryz.ntmps177
  go_wp2
  have hmade := own_made w ((wds n).length + (wds m).length) (by omega)
  clear hmk
  go_loopw [19] (fun ii wr => ∃ (i : Nat) (l : List Nat), i ≤ (wds n).length ∧ ii = .int .i64 i ∧ Mrow (wds n) (wds m) i l ∧ Own wr w.heap.size (.slice (some ⟨w.heap.size, 0, none⟩) l.length ((wds n).length + (wds m).length)) l ∧ Below w.heap.size w wr) (fun ii _ => (wds n).length - (intOf ii).toNat)
  case atStart =>
    refine ⟨0, _, Nat.zero_le _, rfl, mrow_start _ _, ?_, (Below.refl _ _).alloc (Nat.le_refl _) _⟩
    rw [List.length_replicate]
    exact hmade
  case round =>
    obtain ⟨i, l, hi, rfl, hrow, hown, hb⟩ := hrel
    clear hmade
    by_cases hlt : i < (wds n).length
    · obtain ⟨b, off, rfl, hcl⟩ := hcell (by omega)
      have hck := cell_below hb (hcl i hlt)
      clear hcl hcell
      obtain ⟨wo, rfl⟩ : ∃ wo : World, wo = wr := ⟨_, rfl⟩
      have hx1 : (wd (wds n) i : Int) ≤ 999999999 := word_lt (okw_wds n) i
      go_wp2
      go_loopw [8, 26] (fun cc kk wr => ∃ (k : Nat) (l : List Nat) (c : Nat), k ≤ (wds m).length ∧ cc = .int .u64 c ∧ kk = .int .i64 k ∧ Mcol (wds n) (wds m) i k l c ∧ Own wr w.heap.size (.slice (some ⟨w.heap.size, 0, none⟩) l.length ((wds n).length + (wds m).length)) l ∧ Below w.heap.size w wr) (fun _ kk _ => (wds m).length - (intOf kk).toNat)
      case atStart => exact ⟨0, l, 0, Nat.zero_le _, rfl, rfl, mcol_start hrow, hown, hb⟩
      case round =>
        clear hown hb hrow hck
        obtain ⟨k, l, c, hk, rfl, rfl, hcol, hown, hb⟩ := hrel
        have hl := hcol.1
        have hc9 : (c : Int) ≤ 999999999 := by have := hcol.2.2.1; omega
        by_cases hlt2 : k < (wds m).length
        · obtain ⟨b', off', rfl, gcl⟩ := gcell (by omega)
          have gck := cell_below hb (gcl k hlt2)
          have hck := hown.cell (i + k) (by omega)
          have hfr := hown.free (i + k)
          have hy1 : (wd (wds m) k : Int) ≤ 999999999 := word_lt (okw_wds m) k
          have hz1 : (wd l (i + k) : Int) ≤ 999999999 := word_lt hcol.2.1 _
          obtain ⟨p, hp⟩ : ∃ p, p = wd (wds n) i * wd (wds m) k := ⟨_, rfl⟩
          have hp1 : (p : Int) ≤ 999999998000000001 := by
            have : wd (wds n) i * wd (wds m) k ≤ 999999999 * 999999999 := Nat.mul_le_mul (by omega) (by omega)
            omega
          have hpI : (wd (wds n) i : Int) * (wd (wds m) k : Int) = p := by rw [hp, Int.natCast_mul]
          have hN := Lib.hid (mcol_next hcol (okw_wds n) (okw_wds m) hlt hlt2 (s := c + p + wd l (i + k)) (by rw [hp]))
          have hl1 : i + k < (wds n).length + (wds m).length := by omega
          have HL := Lib.hid hl
          have HO := Lib.hid hown
          clear gcl gcell hp hcol hl hown
          go_wp2
          have HS := HO.out.set (i + k) ((c + p + wd l (i + k)) % wB)
          rw [word_mod]
          go_roundw
          case rel => exact ⟨k + 1, _, _, by omega, word_div _ _ _, by go_num, hN.out, by rw [List.length_set] at *; exact HS, hb.setCell (Nat.le_refl _) _⟩
          case measure => simp [intOf]; omega
        · obtain rfl : k = (wds m).length := by omega
          have hl1 : i + (wds m).length < (wds n).length + (wds m).length := by omega
          have hck := hown.cell (i + (wds m).length) (by omega)
          have hfr := hown.free (i + (wds m).length)
          have hN := Lib.hid (mcol_end hcol hlt)
          have HL := Lib.hid hl
          have HO := Lib.hid hown
          clear hcol hl hown
          go_wp2
          have HS := HO.out.set (i + (wds m).length) c
          go_roundw
          case rel => exact ⟨i + 1, _, by omega, by go_num, hN.out, by rw [List.length_set] at *; exact HS, hb.setCell (Nat.le_refl _) _⟩
          case measure => simp [intOf]; omega
    · obtain rfl : i = (wds n).length := by omega
      obtain ⟨h1, h2, h3, h4⟩ := hrow
      rw [preN_all (Nat.le_refl _), val_wds, val_wds] at h3
      have H3 := Lib.hid h3
      have H4 := Lib.hid h4
      have H1 := Lib.hid h1
      clear h3 h4 h1
      go_wp2_with fail
      rw [← H1.out] at hown ⊢
      refine (trim_walk _ l _ wr hown.u32 h2).mono ?_
      rintro e w2 ⟨rfl, rfl⟩
      go_wp2
      go_ret
      have := hown.trim h2
      rw [H3.out] at this ⊢
      exact ⟨_, rfl, this, hb⟩
end Go.Proofs.YtbnbaokamccmjaaGreatDoor
