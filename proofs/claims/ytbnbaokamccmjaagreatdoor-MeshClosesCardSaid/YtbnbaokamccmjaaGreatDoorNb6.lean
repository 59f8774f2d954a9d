/- natural: apply, and the functions on texts. -/
import Derived.Test.YtbnbaokamccmjaaGreatDoorNb5
set_option linter.unusedVariables false
set_option linter.unusedSimpArgs false
namespace Go.Proofs.YtbnbaokamccmjaaGreatDoor
open Go Go.RowKit

set_option maxHeartbeats 400000 in
theorem apply_plus (v u : Value) (r : Nat) (w : World) (hB : Bw w) (hl : (wds r).length ≤ 100000000)
    (hc : Calls Tryz.prog 195 #[v, u] w (Ret fun v' w' => Num w' v' r ∧ Below w.heap.size w w')) :
    Calls Tryz.prog 176 #[.func (.func 195) #[v] #[], u] w fun e w' => e = .returned (.tuple #[.string (dec r), .int .i64 0]) ∧ Below w.heap.size w w' := by
  have HL := Lib.hid hl
  have HC := Lib.hid hc
  clear hl hc
  go_enter Tryz.func176, Tryz.ntmps176
  go_wp2_with fail
  refine HC.out.mono ?_
  rintro e w1 ⟨v1, rfl, g1, g2⟩
  go_wp2_with fail
  refine (text_walk v1 r w1 g1 (hB.below g2) HL.out).mono ?_
  rintro e w2 ⟨rfl, g4⟩
  go_wp2
  go_ret2
  exact ⟨rfl, below_then g2 g2.size g4⟩
set_option maxHeartbeats 400000 in
theorem apply_minus (v u : Value) (r : Nat) (w : World) (hB : Bw w) (hl : (wds r).length ≤ 100000000)
    (hc : Calls Tryz.prog 197 #[v, u] w (Ret fun v' w' => Num w' v' r ∧ Below w.heap.size w w')) :
    Calls Tryz.prog 176 #[.func (.func 197) #[v] #[], u] w fun e w' => e = .returned (.tuple #[.string (dec r), .int .i64 0]) ∧ Below w.heap.size w w' := by
  have HL := Lib.hid hl
  have HC := Lib.hid hc
  clear hl hc
  go_enter Tryz.func176, Tryz.ntmps176
  go_wp2_with fail
  refine HC.out.mono ?_
  rintro e w1 ⟨v1, rfl, g1, g2⟩
  go_wp2_with fail
  refine (text_walk v1 r w1 g1 (hB.below g2) HL.out).mono ?_
  rintro e w2 ⟨rfl, g4⟩
  go_wp2
  go_ret2
  exact ⟨rfl, below_then g2 g2.size g4⟩
set_option maxHeartbeats 400000 in
theorem apply_times (v u : Value) (r : Nat) (w : World) (hB : Bw w) (hl : (wds r).length ≤ 100000000)
    (hc : Calls Tryz.prog 177 #[v, u] w (Ret fun v' w' => Num w' v' r ∧ Below w.heap.size w w')) :
    Calls Tryz.prog 176 #[.func (.func 177) #[v] #[], u] w fun e w' => e = .returned (.tuple #[.string (dec r), .int .i64 0]) ∧ Below w.heap.size w w' := by
  have HL := Lib.hid hl
  have HC := Lib.hid hc
  clear hl hc
  go_enter Tryz.func176, Tryz.ntmps176
  go_wp2_with fail
  refine HC.out.mono ?_
  rintro e w1 ⟨v1, rfl, g1, g2⟩
  go_wp2_with fail
  refine (text_walk v1 r w1 g1 (hB.below g2) HL.out).mono ?_
  rintro e w2 ⟨rfl, g4⟩
  go_wp2
  go_ret2
  exact ⟨rfl, below_then g2 g2.size g4⟩
set_option maxHeartbeats 400000 in
theorem apply_gcd (v u : Value) (r : Nat) (w : World) (hB : Bw w) (hl : (wds r).length ≤ 100000000)
    (hc : Calls Tryz.prog 190 #[v, u] w (Ret fun v' w' => Num w' v' r ∧ Below w.heap.size w w')) :
    Calls Tryz.prog 176 #[.func (.func 190) #[v] #[], u] w fun e w' => e = .returned (.tuple #[.string (dec r), .int .i64 0]) ∧ Below w.heap.size w w' := by
  have HL := Lib.hid hl
  have HC := Lib.hid hc
  clear hl hc
  go_enter Tryz.func176, Tryz.ntmps176
  go_wp2_with fail
  refine HC.out.mono ?_
  rintro e w1 ⟨v1, rfl, g1, g2⟩
  go_wp2_with fail
  refine (text_walk v1 r w1 g1 (hB.below g2) HL.out).mono ?_
  rintro e w2 ⟨rfl, g4⟩
  go_wp2
  go_ret2
  exact ⟨rfl, below_then g2 g2.size g4⟩
end Go.Proofs.YtbnbaokamccmjaaGreatDoor
