/- natural: divide, where the divisor is greater, where both numbers have at most two words, and where the divisor has one word. -/
import Derived.Test.YtbnbaokamccmjaaGreatDoorNa5
import Derived.Test.YtbnbaokamccmjaaGreatDoorMa6
import Derived.IntWalk
import Derived.Deep.RegionWith
import Derived.Deep.DeepCutAuto
set_option linter.unusedVariables false
set_option linter.unusedSimpArgs false
namespace Go.Proofs.YtbnbaokamccmjaaGreatDoor
open Go Go.RowKit

theorem num_zero (w : World) : Num w (.slice none 0 0) 0 := by
  unfold Num
  rw [wds_zero]
  exact U32.mk (l := []) (by simp) (by omega) (fun h => by simp at h)

set_option maxRecDepth 100000 in
set_option maxHeartbeats 4000000 in
theorem divide_less (v u : Value) (n m : Nat) (hlt : n < m) (w : World) (h : Num w v n) (g : Num w u m) :
    Calls Tryz.prog 209 #[v, u] w (Ret2 fun v1 v2 w' => Num w' v1 (n / m) ∧ Num w' v2 (n % m) ∧ Below w.heap.size w w') := by
  rw [Nat.div_eq_of_lt hlt, Nat.mod_eq_of_lt hlt]
  go_enter Tryz.func209, Tryz.ntmps209
  go_wp2_with fail
  refine (compare_walk v u n m w h g).mono ?_
  rintro e w1 ⟨rfl, hb⟩
  rw [cmpN_lt (by omega)]
  go_wp2
  go_ret2
  exact ⟨_, _, rfl, num_zero _, h.below hb, hb⟩

theorem of_div_lt {x y : Nat} (h : x < wB * wB) : x / y < wB * wB := Nat.lt_of_le_of_lt (Nat.div_le_self _ _) h
theorem of_mod_lt {x y : Nat} (h : x < wB * wB) : x % y < wB * wB := Nat.lt_of_le_of_lt (Nat.mod_le _ _) h

theorem of_int (x : Int) (h0 : 0 ≤ x) (hx : x ≤ 999999999999999999) (w : World) :
    Calls Tryz.prog 208 #[.int .u64 x] w (Ret fun v w' => NumO w' w.heap.size v x.toNat ∧ Below w.heap.size w w') := by
  obtain ⟨n, rfl⟩ := Int.eq_ofNat_of_zero_le h0
  rw [Int.toNat_natCast]
  exact of_walk n (by rw [wB_eq]; omega) w
theorem toNat_div (n m : Nat) : ((n : Int) / (m : Int)).toNat = n / m := by rw [← Int.natCast_ediv, Int.toNat_natCast]
theorem toNat_mod (n m : Nat) : ((n : Int) % (m : Int)).toNat = n % m := by rw [← Int.natCast_emod, Int.toNat_natCast]

set_option maxRecDepth 100000 in
set_option maxHeartbeats 400000 in
theorem divide_small (v u : Value) (n m : Nat) (hlt : m ≤ n) (hm : 0 < m) (hn : n < wB * wB) (w : World) (h : Num w v n) (g : Num w u m) :
    Calls Tryz.prog 209 #[v, u] w (Ret2 fun v1 v2 w' => Num w' v1 (n / m) ∧ Num w' v2 (n % m) ∧ Below w.heap.size w w') := by
  have hc : ¬ cmpN n m < 0 := by unfold cmpN; split <;> (try split) <;> omega
  have hn' : (n : Int) ≤ 999999999999999999 := by rw [wB_eq] at hn; omega
  have hm' : (1 : Int) ≤ m := by omega
  have hmn : m < wB * wB := by omega
  have Hn := Lib.hid hn
  have Hm := Lib.hid hmn
  have HM := Lib.hid hm
  clear hn hmn hlt hm
  go_enter Tryz.func209, Tryz.ntmps209
  go_wp2_with fail
  refine (compare_walk v u n m w h g).mono ?_
  rintro e w1 ⟨rfl, hb⟩
  go_wp2_with fail
  refine (small_walk v n w1 (h.below hb)).mono ?_
  rintro e w2 ⟨rfl, hb2⟩
  rw [smallOf, if_pos Hn.out, decide_eq_true Hn.out]
  have hb3 := below_then hb hb.size hb2
  go_wp2_with fail
  refine (small_walk u m w2 (g.below hb3)).mono ?_
  rintro e w3 ⟨rfl, hb4⟩
  rw [smallOf, if_pos Hm.out, decide_eq_true Hm.out]
  have hb5 := below_then hb3 hb3.size hb4
  clear hb hb2 hb3 hb4 h g hc
  have q0 : (0 : Int) ≤ (n : Int) / (m : Int) := by rw [← Int.natCast_ediv]; exact Int.natCast_nonneg _
  have q1 : (n : Int) / (m : Int) ≤ 999999999999999999 := by
    have := Nat.div_le_self n m
    rw [← Int.natCast_ediv]
    generalize n / m = q at *
    omega
  have r0 : (0 : Int) ≤ (n : Int) % (m : Int) := by rw [← Int.natCast_emod]; exact Int.natCast_nonneg _
  have r1 : (n : Int) % (m : Int) ≤ 999999999999999999 := by
    have := Nat.mod_le n m
    rw [← Int.natCast_emod]
    generalize n % m = q at *
    omega
  have hm0 : ¬ m = 0 := by omega
  have hw : IntKind.u64.wrap ((n : Int) / (m : Int)) = (n : Int) / (m : Int) := IntWalk.u64_in _ ⟨q0, by omega⟩
  have hr : (n : Int).tmod (m : Int) = (n : Int) % (m : Int) := Int.tmod_eq_emod_of_nonneg (Int.natCast_nonneg _)
  go_wp2_with fail
  go_region_with (first
      | (go_at_call_of 208 (Value.int IntKind.u64 ((n : Int) / (m : Int))); refine (of_int ((n : Int) / (m : Int)) q0 q1 _).mono ?_; rintro e w4 ⟨v4, rfl, g1, g2⟩; have hB1 := below_then hb5.drew hb5.drew.size g2)
      | (go_at_call_of 208 (Value.int IntKind.u64 ((n : Int) % (m : Int))); refine (of_int ((n : Int) % (m : Int)) r0 r1 _).mono ?_; rintro e w5 ⟨v5, rfl, g3, g4⟩; have hB2 := below_then hB1 hB1.size g4))
  go_wp2
  go_ret2
  rw [toNat_div] at g1
  rw [toNat_mod] at g3
  exact ⟨_, _, rfl, (NumO.below g1 g4).num, g3.num, hB2⟩

set_option maxRecDepth 100000 in
set_option maxHeartbeats 1000000 in
theorem divide_word (v u : Value) (n m : Nat) (hlt : m ≤ n) (hm : 0 < m) (hm1 : m < wB) (hn : wB * wB ≤ n) (w : World) (h : Num w v n) (g : Num w u m) (hf : (wds n).length ≤ 2000000000) :
    Calls Tryz.prog 209 #[v, u] w (Ret2 fun v1 v2 w' => Num w' v1 (n / m) ∧ Num w' v2 (n % m) ∧ Below w.heap.size w w') := by
  have hc : ¬ cmpN n m < 0 := by unfold cmpN; split <;> (try split) <;> omega
  have hmn : m < wB * wB := Nat.lt_of_lt_of_le hm1 (by decide)
  have hone := wds_one_word (n := m) (by omega) hm1
  have hm9 : m ≤ 999999999 := by rw [wB_eq] at hm1; omega
  have hmI : (m : Int) ≤ 999999999 := by omega
  have Hn := Lib.hid hn
  have Hm := Lib.hid hmn
  have H0 := Lib.hid hm
  have H1 := Lib.hid hone
  have H9 := Lib.hid hm9
  clear hn hmn hlt hm hm1 hone hm9
  go_enter Tryz.func209, Tryz.ntmps209
  go_wp2_with fail
  refine (compare_walk v u n m w h g).mono ?_
  rintro e w1 ⟨rfl, hb⟩
  go_wp2_with fail
  refine (small_walk v n w1 (h.below hb)).mono ?_
  rintro e w2 ⟨rfl, hb2⟩
  rw [smallOf, if_neg (Nat.not_lt.2 Hn.out), decide_eq_false (Nat.not_lt.2 Hn.out)]
  have hb3 := below_then hb hb.size hb2
  go_wp2_with fail
  refine (small_walk u m w2 (g.below hb3)).mono ?_
  rintro e w3 ⟨rfl, hb4⟩
  rw [smallOf, if_pos Hm.out, decide_eq_true Hm.out]
  have hb5 := below_then hb3 hb3.size hb4
  have h5 := h.below hb5
  obtain ⟨A, cap, rfl, gn, gc, gcell⟩ := (g.below hb5).open
  rw [H1.out] at gn gcell ⊢
  obtain ⟨b, off, rfl, hcl⟩ := gcell (by simp)
  have hck := hcl 0 (by simp)
  have e0 : wd [m] 0 = m := rfl
  rw [e0, Nat.add_zero] at hck
  clear hb hb2 hb3 hb4 h g hc gcell hcl e0
  go_wp2_with fail
  refine (by_walk v n m H0.out H9.out w3 h5 hf).mono ?_
  rintro e w4 ⟨v1, v2, rfl, g1, g2, g3⟩
  go_wp2
  go_ret2
  exact ⟨_, _, rfl, g1.num, g2.num, below_then hb5 hb5.size g3⟩
end Go.Proofs.YtbnbaokamccmjaaGreatDoor
