/- natural: by: the quotient and the remainder by one word. -/
import Derived.Test.YtbnbaokamccmjaaGreatDoorNa4
set_option linter.unusedVariables false
set_option linter.unusedSimpArgs false
namespace Go.Proofs.YtbnbaokamccmjaaGreatDoor
open Go Go.RowKit

/-- What holds when the words from k on are divided. -/
def Bdiv (a : List Nat) (d k : Nat) (l : List Nat) (r : Nat) : Prop := l.length = a.length ∧ Okw l ∧ r < d ∧ val (a.drop k) = d * val (l.drop k) + r

theorem bdiv_start (a : List Nat) {d : Nat} (h : 0 < d) : Bdiv a d a.length (List.replicate a.length 0) 0 := by
  refine ⟨by simp, Okw.replicate _, h, ?_⟩
  rw [List.drop_of_length_le (Nat.le_refl _), List.drop_of_length_le (by simp)]
  rfl
theorem bdiv_next {a l : List Nat} {d k r s : Nat} (h : Bdiv a d (k + 1) l r) (hd : d ≤ 999999999) (ha : Okw a) (hk : k < a.length) (hs : s = r * wB + wd a k) :
    Bdiv a d k (l.set k (s / d)) (s % d) ∧ s / d < wB := by
  obtain ⟨h1, h2, h3, h4⟩ := h
  have hx := ha.get k
  change wd a k < _ at hx
  have hq : s / d < wB := by
    rw [Nat.div_lt_iff_lt_mul (by omega), hs]
    have : (r + 1) * wB ≤ d * wB := Nat.mul_le_mul_right _ h3
    rw [Nat.add_mul, Nat.one_mul] at this
    rw [Nat.mul_comm wB d]
    omega
  refine ⟨⟨by rw [List.length_set]; exact h1, h2.set _ _ hq, Nat.mod_lt _ (by omega), ?_⟩, hq⟩
  rw [drop_wd hk, drop_wd (l := l.set k (s / d)) (by rw [List.length_set]; omega), val_cons, val_cons, wd_set (by omega), if_pos rfl, drop_set_same, h4]
  have e := Nat.div_add_mod s d
  have e2 : wB * (d * val (l.drop (k + 1)) + r) = d * (wB * val (l.drop (k + 1))) + r * wB := by
    rw [Nat.mul_add, Nat.mul_comm wB r]
    have : wB * (d * val (l.drop (k + 1))) = d * (wB * val (l.drop (k + 1))) := by ac_rfl
    omega
  rw [e2, Nat.mul_add]
  omega
theorem bdiv_end {a l : List Nat} {d r : Nat} (h : Bdiv a d 0 l r) (hd : 0 < d) : val l = val a / d ∧ r = val a % d := by
  obtain ⟨h1, h2, h3, h4⟩ := h
  rw [List.drop_zero, List.drop_zero] at h4
  rw [h4]
  constructor
  · rw [Nat.add_comm, Nat.add_mul_div_left _ _ hd, Nat.div_eq_of_lt h3, Nat.zero_add]
  · rw [Nat.mul_add_mod, Nat.mod_eq_of_lt h3]

theorem cast_word (r x : Nat) : ((r * 1000000000 + x : Nat) : Int) = (r : Int) * 1000000000 + (x : Int) := by omega
theorem word_quo (r x d : Nat) (h : (r * wB + x) / d < wB) : Value.int .u32 (((r : Int) * 1000000000 + (x : Int)) / (d : Int) % 4294967296) = .int .u32 (((r * wB + x) / d : Nat) : Int) := by
  have e : (((r : Int) * 1000000000 + (x : Int)) / (d : Int)) = (((r * wB + x) / d : Nat) : Int) := by rw [Int.natCast_ediv, wB_eq, cast_word]
  rw [e]
  generalize (r * wB + x) / d = q at h ⊢
  rw [wB_eq] at h
  congr 1
  omega
theorem word_rem (r x d : Nat) : Value.int .u64 (((r : Int) * 1000000000 + (x : Int)) % (d : Int)) = .int .u64 (((r * wB + x) % d : Nat) : Int) := by
  rw [Int.natCast_emod, wB_eq, cast_word]

set_option maxRecDepth 100000 in
set_option maxHeartbeats 4000000 in
theorem by_walk (v : Value) (n d : Nat) (hd0 : 0 < d) (hd : d ≤ 999999999) (w : World) (h : Num w v n) (hf : (wds n).length ≤ 2000000000) :
    Calls Tryz.prog 226 #[v, .int .u64 d] w (Ret2 fun v1 v2 w' => NumO w' w.heap.size v1 (n / d) ∧ NumO w' w.heap.size v2 (n % d) ∧ Below w.heap.size w w') := by
  obtain ⟨A, cap, rfl, hn, hc, hcell⟩ := h.open
  clear h
  have hmk := fun W => make_full 212 Tryz.underlying212 ((wds n).length : Int) (wds n).length (by omega) (by omega) W
  go_enter Tryz.func226, Tryz.ntmps226
  go_wp2
  have hmade := own_made w (wds n).length (by omega)
  clear hmk
  go_loopw [7, 8] (fun rr ii wr => ∃ (k : Nat) (l : List Nat) (r : Nat), k ≤ (wds n).length ∧ rr = .int .u64 r ∧ ii = .int .i64 ((k : Int) - 1) ∧ Bdiv (wds n) d k l r ∧ Own wr w.heap.size (.slice (some ⟨w.heap.size, 0, none⟩) l.length (wds n).length) l ∧ Below w.heap.size w wr) (fun _ ii _ => (intOf ii + 1).toNat)
  case atStart =>
    refine ⟨_, _, 0, Nat.le_refl _, rfl, rfl, bdiv_start _ hd0, ?_, (Below.refl _ _).alloc (Nat.le_refl _) _⟩
    rw [List.length_replicate]
    exact hmade
  case round =>
    obtain ⟨k, l, r, hk, rfl, rfl, hdiv, hown, hb⟩ := hrel
    clear hmade
    by_cases h0 : k = 0
    · subst h0
      obtain ⟨e1, e2⟩ := bdiv_end hdiv hd0
      rw [val_wds] at e1 e2
      have H1 := Lib.hid hdiv.1
      have E1 := Lib.hid e1
      have E2 := Lib.hid e2
      have ho := hdiv.2.1
      have hr : r < wB * wB := by have := hdiv.2.2.1; rw [wB_eq]; omega
      clear hdiv e1 e2
      go_wp2_with fail
      rw [← H1.out] at hown ⊢
      refine (trim_walk _ l _ wr hown.u32 ho).mono ?_
      rintro e w2 ⟨rfl, rfl⟩
      go_wp2_with fail
      refine (of_walk r hr _).mono ?_
      rintro e w2 ⟨v2, rfl, g1, g2⟩
      go_wp2
      go_ret2
      have := (hown.trim ho).below g2
      rw [E1.out] at this ⊢
      rw [E2.out] at g1
      exact ⟨_, _, rfl, this, g1.base hb.size, below_then hb hb.size g2⟩
    · obtain ⟨j, rfl⟩ : ∃ j, k = j + 1 := ⟨k - 1, by omega⟩
      obtain ⟨b, off, rfl, hcl⟩ := hcell (by omega)
      have hck := cell_below hb (hcl j (by omega))
      have hl := hdiv.1
      have hfr := hown.free j
      have hcc := hown.cell j (by omega)
      have hx1 : (wd (wds n) j : Int) ≤ 999999999 := word_lt (okw_wds n) j
      have hr1 : (r : Int) ≤ 999999999 := by have := hdiv.2.2.1; omega
      have hdI : (1 : Int) ≤ d := by omega
      obtain ⟨hnx, hq⟩ := bdiv_next hdiv hd (okw_wds n) (by omega) (s := r * wB + wd (wds n) j) rfl
      have hN := Lib.hid hnx
      have hQ := Lib.hid hq
      have HL := Lib.hid hl
      have HO := Lib.hid hown
      have hjl : j < (wds n).length := by omega
      clear hcl hcell hdiv hl hown hnx hq
      go_wp2
      rw [word_quo _ _ _ hQ.out]
      have HS := HO.out.set j ((r * wB + wd (wds n) j) / d)
      go_roundw
      case rel => exact ⟨j, _, _, by omega, word_rem _ _ _, rfl, hN.out, by rw [List.length_set] at *; exact HS, hb.setCell (Nat.le_refl _) _⟩
      case measure => simp [intOf]
end Go.Proofs.YtbnbaokamccmjaaGreatDoor
