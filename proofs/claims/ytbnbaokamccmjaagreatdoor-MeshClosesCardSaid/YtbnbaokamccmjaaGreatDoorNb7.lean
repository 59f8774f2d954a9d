/- natural: the functions on texts. -/
import Derived.Test.YtbnbaokamccmjaaGreatDoorNa3
import Derived.Test.YtbnbaokamccmjaaGreatDoorNa4
import Derived.Test.YtbnbaokamccmjaaGreatDoorNa8
import Derived.Test.YtbnbaokamccmjaaGreatDoorNb6
set_option linter.unusedVariables false
set_option linter.unusedSimpArgs false
namespace Go.Proofs.YtbnbaokamccmjaaGreatDoor
open Go Go.RowKit

/-- A number has no more words than digits. -/
theorem wds_le_dec (n : Nat) : (wds n).length ≤ (dec n).size := by
  refine wds_lt_pow ?_
  have h := natOf_lt (digs_decDigits n)
  rw [natOf_decDigits, ← dec_toList, toList_length] at h
  exact Nat.lt_of_lt_of_le h (Nat.pow_le_pow_left (by rw [wB_eq]; omega) _)

set_option maxHeartbeats 1000000 in
theorem natAdd_walk (n m : Nat) (hn : (dec n).size ≤ 100000000) (hm : (dec m).size ≤ 100000000) (hr : (wds (n + m)).length ≤ 100000000) (w : World) (hB : Bw w) :
    Calls Tryz.prog 178 #[.string (dec n), .string (dec m)] w fun e w' => e = .returned (.tuple #[.string (dec (n + m)), .int .i64 0]) ∧ Below w.heap.size w w' := by
  have HN := Lib.hid hn
  have HM := Lib.hid hm
  have HR := Lib.hid hr
  have H1 := Lib.hid (Nat.le_trans (wds_le_dec n) hn)
  have H2 := Lib.hid (Nat.le_trans (wds_le_dec m) hm)
  clear hn hm hr
  go_enter Tryz.func178, Tryz.ntmps178
  go_wp2_with fail
  refine (both_walk n m HN.out HM.out w).mono ?_
  rintro e w1 ⟨v, u, rfl, g1, g2, g3⟩
  go_wp2_with fail
  refine (apply_plus v u (n + m) w1 (hB.below g3) HR.out ?_).mono ?_
  · refine (plus_walk v u n m w1 g1.num g2.num (Nat.le_trans H1.out (by decide)) (Nat.le_trans H2.out (by decide))).mono ?_
    rintro e w2 ⟨v2, rfl, g4, g5⟩
    exact ⟨v2, rfl, g4.num, g5⟩
  rintro e w3 ⟨rfl, g6⟩
  go_wp2
  go_ret2
  exact ⟨rfl, below_then g3 g3.size g6⟩

set_option maxHeartbeats 1000000 in
theorem natMul_walk (n m : Nat) (hn : (dec n).size ≤ 100000000) (hm : (dec m).size ≤ 100000000) (hr : (wds (n * m)).length ≤ 100000000) (w : World) (hB : Bw w) :
    Calls Tryz.prog 157 #[.string (dec n), .string (dec m)] w fun e w' => e = .returned (.tuple #[.string (dec (n * m)), .int .i64 0]) ∧ Below w.heap.size w w' := by
  have HN := Lib.hid hn
  have HM := Lib.hid hm
  have HR := Lib.hid hr
  have H1 := Lib.hid (Nat.le_trans (wds_le_dec n) hn)
  have H2 := Lib.hid (Nat.le_trans (wds_le_dec m) hm)
  clear hn hm hr
  go_enter Tryz.func157, Tryz.ntmps157
  go_wp2_with fail
  refine (both_walk n m HN.out HM.out w).mono ?_
  rintro e w1 ⟨v, u, rfl, g1, g2, g3⟩
  go_wp2_with fail
  refine (apply_times v u (n * m) w1 (hB.below g3) HR.out ?_).mono ?_
  · refine (times_walk v u n m w1 g1.num g2.num (Nat.le_trans H1.out (by decide)) (Nat.le_trans H2.out (by decide))).mono ?_
    rintro e w2 ⟨v2, rfl, g4, g5⟩
    exact ⟨v2, rfl, g4.num, g5⟩
  rintro e w3 ⟨rfl, g6⟩
  go_wp2
  go_ret2
  exact ⟨rfl, below_then g3 g3.size g6⟩

set_option maxHeartbeats 1000000 in
theorem natGCD_walk (n m : Nat) (hn : (dec n).size ≤ 100000000) (hm : (dec m).size ≤ 100000000) (hr : (wds (Nat.gcd n m)).length ≤ 100000000) (w : World) (hB : Bw w) :
    Calls Tryz.prog 172 #[.string (dec n), .string (dec m)] w fun e w' => e = .returned (.tuple #[.string (dec (Nat.gcd n m)), .int .i64 0]) ∧ Below w.heap.size w w' := by
  have HN := Lib.hid hn
  have HM := Lib.hid hm
  have HR := Lib.hid hr
  have H1 := Lib.hid (Nat.le_trans (wds_le_dec n) hn)
  have H2 := Lib.hid (Nat.le_trans (wds_le_dec m) hm)
  clear hn hm hr
  go_enter Tryz.func172, Tryz.ntmps172
  go_wp2_with fail
  refine (both_walk n m HN.out HM.out w).mono ?_
  rintro e w1 ⟨v, u, rfl, g1, g2, g3⟩
  go_wp2_with fail
  refine (apply_gcd v u (Nat.gcd n m) w1 (hB.below g3) HR.out ?_).mono ?_
  · refine (gcd_walk v u n m w1 g1.num g2.num (Nat.le_trans H1.out (by decide)) (Nat.le_trans H2.out (by decide))).mono ?_
    rintro e w2 ⟨v2, rfl, g4, g5⟩
    exact ⟨v2, rfl, g4, g5⟩
  rintro e w3 ⟨rfl, g6⟩
  go_wp2
  go_ret2
  exact ⟨rfl, below_then g3 g3.size g6⟩

end Go.Proofs.YtbnbaokamccmjaaGreatDoor
