/- Words for the walks above natural: worlds that only grow, in short names; sizes of numbers. No function of the program. -/
import Derived.Test.YtbnbaokamccmjaaGreatDoorNb8
import Derived.Test.YtbnbaokamccmjaaGreatDoorMb1
set_option linter.unusedVariables false
set_option linter.unusedSimpArgs false
namespace Go.Proofs.YtbnbaokamccmjaaGreatDoor
open Go Go.RowKit

theorem br (w : World) : Below w.heap.size w w := Below.refl _ _
theorem ba {w W : World} (h : Below w.heap.size w W) {o : Obj} : Below w.heap.size w (W.alloc o) := h.alloc h.size o
theorem bs {w W : World} (h : Below w.heap.size w W) {p : Addr} {u : Value} (hp : w.heap.size ≤ p.block) : Below w.heap.size w (W.setCell p u) := h.setCell hp u
theorem bd {w W : World} (h : Below w.heap.size w W) : Below w.heap.size w W.drew := h.drew
theorem bn {w W V : World} (h : Below w.heap.size w W) (g : Below W.heap.size W V) : Below w.heap.size w V := below_then h h.size g
/-- A cell of an earlier world. -/
theorem bc {W V : World} (g : Below W.heap.size W V) {b o : Nat} {v : Value} (h : W.cell? ⟨b, o, none⟩ = some v) : V.cell? ⟨b, o, none⟩ = some v := cell_below g h
theorem bfz {W V : World} (g : Below W.heap.size W V) {b o : Nat} (hb : b < W.heap.size) (h : W.frozen? ⟨b, o, none⟩ = false) : V.frozen? ⟨b, o, none⟩ = false := (g.frozen (p := ⟨b, o, none⟩) hb).trans h

/- What keeps: cells and sizes behind an alloc, behind a store elsewhere. -/
theorem cal {W : World} {o : Obj} {p : Addr} {v : Value} (h : W.cell? p = some v) : (W.alloc o).cell? p = some v := by
  rw [World.cell?_alloc_some _ _ _ (by rw [h]; rfl)]; exact h
theorem cset {W : World} {p : Addr} {u : Value} {b o : Nat} {v : Value} (h : W.cell? ⟨b, o, none⟩ = some v) (hb : p.block ≠ b) : (W.setCell p u).cell? ⟨b, o, none⟩ = some v := by
  rw [World.cell?_setCell_far _ _ _ _ hb]; exact h
theorem zal {W : World} {o : Obj} {n : Nat} (h : n < W.heap.size) : n < (W.alloc o).heap.size := by simp; omega
theorem zset {W : World} {p : Addr} {u : Value} {n : Nat} (h : n < W.heap.size) : n < (W.setCell p u).heap.size := by simp; omega

/-- How many digits a number has. -/
def dg (n : Nat) : Nat := (dec n).size
theorem dg_def (n : Nat) : (dec n).size = dg n := rfl
theorem dg_le {n k : Nat} (h0 : 0 < k) (h : n < 10 ^ k) : dg n ≤ k := by
  unfold dg
  rw [dec_size]
  rcases Nat.lt_or_ge k (Lib.nDigits n) with hl | hl
  · have hk : 10 ^ k ≤ 10 ^ (Lib.nDigits n - 1) := Nat.pow_le_pow_right (by omega) (by omega)
    have h1 : n ≠ 0 := fun e => by
      subst e
      rw [Lib.nDigits_small (by omega)] at hl
      omega
    have h2 : ∀ m : Nat, m ≠ 0 → 10 ^ (Lib.nDigits m - 1) ≤ m := by
      intro m
      induction m using Nat.strongRecOn with
      | _ m ih =>
        intro hm
        by_cases h : m < 10
        · rw [Lib.nDigits_small h]; simp; omega
        · have := ih (m / 10) (by omega) (by omega)
          have hp := Lib.nDigits_pos (m / 10)
          rw [Lib.nDigits_big h, show Lib.nDigits (m / 10) + 1 - 1 = (Lib.nDigits (m / 10) - 1) + 1 by omega, Nat.pow_succ]
          omega
    have := h2 n h1
    omega
  · exact hl
theorem lt_dg (n : Nat) : n < 10 ^ dg n := by
  unfold dg
  rw [dec_size]
  exact Lib.lt_pow_nDigits n
theorem dg_pos (n : Nat) : 0 < dg n := by
  unfold dg
  rw [dec_size]
  exact Lib.nDigits_pos n
theorem dg_mono {n m : Nat} (h : n ≤ m) : dg n ≤ dg m := dg_le (dg_pos m) (Nat.lt_of_le_of_lt h (lt_dg m))
theorem dg_mul (n m : Nat) : dg (n * m) ≤ dg n + dg m := by
  refine dg_le (by have := dg_pos n; omega) ?_
  rw [Nat.pow_add]
  have h1 := lt_dg n
  have h2 := lt_dg m
  rcases Nat.eq_zero_or_pos m with e | e
  · subst e
    rw [Nat.mul_zero]
    exact Nat.mul_pos (Nat.pow_pos (by omega)) (Nat.pow_pos (by omega))
  · exact Nat.lt_of_lt_of_le (Nat.mul_lt_mul_of_pos_right h1 e) (Nat.mul_le_mul_left _ (Nat.le_of_lt h2))
theorem dg_add (n m : Nat) : dg (n + m) ≤ max (dg n) (dg m) + 1 := by
  refine dg_le (by omega) ?_
  have h1 := lt_dg n
  have h2 := lt_dg m
  have k1 : 10 ^ dg n ≤ 10 ^ max (dg n) (dg m) := Nat.pow_le_pow_right (by omega) (by omega)
  have k2 : 10 ^ dg m ≤ 10 ^ max (dg n) (dg m) := Nat.pow_le_pow_right (by omega) (by omega)
  rw [Nat.pow_succ]
  omega
theorem dg_small {n : Nat} (h : n < 10) : dg n = 1 := by
  unfold dg
  rw [dec_size, Lib.nDigits_small h]
theorem wds_le_dg (n : Nat) : (wds n).length ≤ dg n := wds_le_dec n

/-- The size of a rational number: the more of its parts' digits. -/
def rz (q : Rat) : Nat := max (dg q.num.natAbs) (dg q.den)
theorem rz_num (q : Rat) : dg q.num.natAbs ≤ rz q := Nat.le_max_left _ _
theorem rz_den (q : Rat) : dg q.den ≤ rz q := Nat.le_max_right _ _
theorem rz_neg (q : Rat) : rz (-q) = rz q := by unfold rz; simp
/-- A quotient in lowest terms is not larger. -/
theorem rz_mk {p : Int} {d k : Nat} (h0 : d ≠ 0) (h1 : dg p.natAbs ≤ k) (h2 : dg d ≤ k) : rz (mkRat p d) ≤ k := by
  unfold rz
  rw [Rat.num_mkRat, Rat.den_mkRat]
  simp only [h0, if_false, ite_false]
  refine Nat.max_le.2 ⟨Nat.le_trans (dg_mono ?_) h1, Nat.le_trans (dg_mono (Nat.div_le_self _ _)) h2⟩
  exact Int.natAbs_ediv_le_natAbs _ _
theorem rz_mul (x y : Rat) : rz (x * y) ≤ rz x + rz y := by
  rw [Rat.mul_def', ]
  refine rz_mk (Nat.mul_ne_zero x.den_nz y.den_nz) ?_ ?_
  · rw [Int.natAbs_mul]
    have := dg_mul x.num.natAbs y.num.natAbs
    have := rz_num x
    have := rz_num y
    omega
  · have := dg_mul x.den y.den
    have := rz_den x
    have := rz_den y
    omega
theorem rz_add (x y : Rat) : rz (x + y) ≤ rz x + rz y + 1 := by
  rw [Rat.add_def']
  have a1 := rz_num x
  have a2 := rz_num y
  have a3 := rz_den x
  have a4 := rz_den y
  refine rz_mk (Nat.mul_ne_zero x.den_nz y.den_nz) ?_ ?_
  · have b1 := dg_mul x.num.natAbs y.den
    have b2 := dg_mul y.num.natAbs x.den
    have b3 := dg_add (x.num.natAbs * y.den) (y.num.natAbs * x.den)
    have b4 : (x.num * y.den + y.num * x.den).natAbs ≤ x.num.natAbs * y.den + y.num.natAbs * x.den := by
      have := Int.natAbs_add_le (x.num * y.den) (y.num * x.den)
      rwa [Int.natAbs_mul, Int.natAbs_mul, Int.natAbs_natCast, Int.natAbs_natCast] at this
    have := dg_mono b4
    omega
  · have := dg_mul x.den y.den
    omega
theorem rz_inv (x : Rat) : rz x⁻¹ = rz x := by
  unfold rz
  rw [Rat.num_inv, Rat.den_inv]
  by_cases h : x.num = 0
  · have hd : x.den = 1 := by
      have := x.reduced
      rw [h] at this
      simpa [Nat.Coprime] using this
    simp [h, hd, dg_small]
  · simp [h, Int.natAbs_mul, Int.natAbs_sign]
    exact Nat.max_comm _ _
theorem rz_div (x y : Rat) : rz (x / y) ≤ rz x + rz y := by
  rw [Rat.div_def]
  have := rz_mul x y⁻¹
  rwa [rz_inv] at this
theorem rz_sub (x y : Rat) : rz (x - y) ≤ rz x + rz y + 1 := by
  rw [Rat.sub_eq_add_neg]
  have := rz_add x (-y)
  rwa [rz_neg] at this
end Go.Proofs.YtbnbaokamccmjaaGreatDoor
