/- natural: Sub, DivMod, Compare on texts. -/
import Derived.Test.YtbnbaokamccmjaaGreatDoorNb7
set_option linter.unusedVariables false
set_option linter.unusedSimpArgs false
namespace Go.Proofs.YtbnbaokamccmjaaGreatDoor
open Go Go.RowKit

set_option maxHeartbeats 1000000 in
theorem natCompare_walk (n m : Nat) (hn : (dec n).size ≤ 100000000) (hm : (dec m).size ≤ 100000000) (w : World) :
    Calls Tryz.prog 179 #[.string (dec n), .string (dec m)] w fun e w' => e = .returned (.tuple #[.int .i64 (cmpN n m), .int .i64 0]) ∧ Below w.heap.size w w' := by
  have HN := Lib.hid hn
  have HM := Lib.hid hm
  clear hn hm
  go_enter Tryz.func179, Tryz.ntmps179
  go_wp2_with fail
  refine (both_walk n m HN.out HM.out w).mono ?_
  rintro e w1 ⟨v, u, rfl, g1, g2, g3⟩
  go_wp2_with fail
  refine (compare_walk v u n m w1 g1.num g2.num).mono ?_
  rintro e w3 ⟨rfl, g6⟩
  go_wp2
  go_ret2
  exact ⟨rfl, below_then g3 g3.size g6⟩

set_option maxHeartbeats 1000000 in
theorem natSub_walk (n m : Nat) (hle : m ≤ n) (hn : (dec n).size ≤ 100000000) (hm : (dec m).size ≤ 100000000) (hr : (wds (n - m)).length ≤ 100000000) (w : World) (hB : Bw w) :
    Calls Tryz.prog 180 #[.string (dec n), .string (dec m)] w fun e w' => e = .returned (.tuple #[.string (dec (n - m)), .int .i64 0]) ∧ Below w.heap.size w w' := by
  have HN := Lib.hid hn
  have HM := Lib.hid hm
  have HR := Lib.hid hr
  have HL := Lib.hid hle
  have H1 := Lib.hid (Nat.le_trans (wds_le_dec n) hn)
  have H2 := Lib.hid (Nat.le_trans (wds_le_dec m) hm)
  have hcm : ¬ cmpN n m < 0 := by
    unfold cmpN
    split
    · omega
    · split <;> omega
  clear hn hm hr hle
  go_enter Tryz.func180, Tryz.ntmps180
  go_wp2_with fail
  refine (both_walk n m HN.out HM.out w).mono ?_
  rintro e w1 ⟨v, u, rfl, g1, g2, g3⟩
  go_wp2_with fail
  refine (compare_walk v u n m w1 g1.num g2.num).mono ?_
  rintro e w2 ⟨rfl, g6⟩
  have k1 := g1.below g6
  have k2 := g2.below g6
  have k3 := below_then g3 g3.size g6
  go_wp2_with fail
  refine (apply_minus v u (n - m) w2 (hB.below k3) HR.out ?_).mono ?_
  · refine (minus_walk v u n m HL.out w2 k1.num k2.num (Nat.le_trans H1.out (by decide)) (Nat.le_trans H2.out (by decide))).mono ?_
    rintro e w3 ⟨v2, rfl, g4, g5⟩
    exact ⟨v2, rfl, g4.num, g5⟩
  rintro e w3 ⟨rfl, g7⟩
  go_wp2
  go_ret2
  exact ⟨rfl, below_then k3 k3.size g7⟩

set_option maxHeartbeats 1000000 in
theorem natDivMod_walk (n m : Nat) (h0 : 0 < m) (hn : (dec n).size ≤ 100000000) (hm : (dec m).size ≤ 100000000) (hr : (wds (n / m)).length ≤ 100000000) (hr2 : (wds (n % m)).length ≤ 100000000) (w : World) (hB : Bw w) :
    Calls Tryz.prog 223 #[.string (dec n), .string (dec m)] w fun e w' => e = .returned (.tuple #[.string (dec (n / m)), .string (dec (n % m)), .int .i64 0]) ∧ Below w.heap.size w w' := by
  have HN := Lib.hid hn
  have HM := Lib.hid hm
  have HR := Lib.hid hr
  have HR2 := Lib.hid hr2
  have HL := Lib.hid h0
  have H1 := Lib.hid (Nat.le_trans (wds_le_dec n) hn)
  have hz : (((wds m).length : Int) == 0) = false := by
    have : (wds m).length ≠ 0 := fun e => by
      have := wds_eq_nil (n := m) |>.1 (List.length_eq_zero_iff.1 e)
      omega
    exact beq_eq_false_iff_ne.2 (by omega)
  clear hn hm hr hr2 h0
  go_enter Tryz.func223, Tryz.ntmps223
  go_wp2_with fail
  refine (both_walk n m HN.out HM.out w).mono ?_
  rintro e w1 ⟨v, u, rfl, g1, g2, g3⟩
  obtain ⟨A, cap, rfl, -, -⟩ := Own.form g2
  go_wp2_with fail
  refine (divide_walk v _ n m HL.out w1 g1.num g2.num (Nat.le_trans H1.out (by decide))).mono ?_
  rintro e w2 ⟨q, r, rfl, k1, k2, k3⟩
  have k4 := below_then g3 g3.size k3
  go_wp2_with fail
  refine (text_walk q (n / m) w2 k1 (hB.below k4) HR.out).mono ?_
  rintro e w3 ⟨rfl, k5⟩
  have k6 := below_then k4 k4.size k5
  go_wp2_with fail
  refine (text_walk r (n % m) w3 (k2.below k5) (hB.below k6) HR2.out).mono ?_
  rintro e w4 ⟨rfl, k7⟩
  go_wp2
  go_ret3
  exact ⟨rfl, below_then k6 k6.size k7⟩
end Go.Proofs.YtbnbaokamccmjaaGreatDoor
