/- natural: both: two texts read. -/
import Derived.Test.YtbnbaokamccmjaaGreatDoorNb2
set_option linter.unusedVariables false
set_option linter.unusedSimpArgs false
namespace Go.Proofs.YtbnbaokamccmjaaGreatDoor
open Go Go.RowKit

/-- Two values that are not known, and a third that is. -/
def Ret3 (z : Value) (P : Value → Value → World → Prop) (e : Ending) (w' : World) : Prop := ∃ v1 v2, e = .returned (.tuple #[v1, v2, z]) ∧ P v1 v2 w'

theorem dec_isNat (n : Nat) : isNat (dec n).data.toList = true := by rw [dec_toList]; exact isNat_decDigits n
theorem dec_natOf' (n : Nat) : natOf (dec n).data.toList = n := by rw [dec_toList]; exact natOf_decDigits n
theorem valid_dec (n : Nat) (hs : (dec n).size ≤ 100000000) (w : World) :
    Calls Tryz.prog 149 #[.string (dec n)] w fun e w' => e = .returned (.bool true) ∧ w' = w := by
  have := valid_walk (dec n) (by omega) w
  rw [dec_isNat] at this
  exact this
theorem read_dec (n : Nat) (hs : (dec n).size ≤ 100000000) (w : World) :
    Calls Tryz.prog 192 #[.string (dec n)] w (Ret fun v w' => NumO w' w.heap.size v n ∧ Below w.heap.size w w') := by
  have := read_walk (dec n) hs (isNat_digs (dec_isNat n)) w
  rw [dec_natOf'] at this
  exact this

set_option maxHeartbeats 400000 in
theorem both_walk (n m : Nat) (hn : (dec n).size ≤ 100000000) (hm : (dec m).size ≤ 100000000) (w : World) :
    Calls Tryz.prog 175 #[.string (dec n), .string (dec m)] w (Ret3 (.int .i64 0) fun v1 v2 w' => NumO w' w.heap.size v1 n ∧ NumO w' w.heap.size v2 m ∧ Below w.heap.size w w') := by
  have HN := Lib.hid hn
  have HM := Lib.hid hm
  clear hn hm
  generalize hx : dec n = x at *
  generalize hy : dec m = y at *
  go_enter Tryz.func175, Tryz.ntmps175
  go_wp2_with (first
    | (go_at_call_of 149 (Value.string x); rw [← hx]; refine (valid_dec n (by rw [hx]; exact HN.out) _).mono ?_; rintro e w9 ⟨rfl, rfl⟩; rw [hx])
    | (go_at_call_of 149 (Value.string y); rw [← hy]; refine (valid_dec m (by rw [hy]; exact HM.out) _).mono ?_; rintro e w9 ⟨rfl, rfl⟩; rw [hy])
    | fail)
  have R1 := read_dec n (by rw [hx]; exact HN.out) w9
  rw [hx] at R1
  refine R1.mono ?_
  rintro e w1 ⟨v1, rfl, g1, g2⟩
  go_wp2_with fail
  have R2 := read_dec m (by rw [hy]; exact HM.out) w1
  rw [hy] at R2
  refine R2.mono ?_
  rintro e w2 ⟨v2, rfl, g3, g4⟩
  go_wp2
  go_ret3
  exact ⟨_, _, rfl, g1.below g4, g3.base g2.size, below_then g2 g2.size g4⟩
end Go.Proofs.YtbnbaokamccmjaaGreatDoor
