/- slices.Backward over a number's words: its contract for whatever loop body keeps what lay below. -/
import Derived.RangeFuncNested
import Derived.RangeFuncBound
import Derived.RangeFuncCalls
import Derived.RangeFuncBox
import Derived.RangeFuncLeaves
import Derived.Shelf.Abstract
import Derived.Shelf.RegionOpen
import Derived.WalkKit
import Derived.OwnWalkIn
import Derived.TacticsInMore
import Derived.LoopNIn
import Derived.LoopIn
import Derived.Test.YtbnbaokamccmjaaGreatDoorNb3
set_option linter.unusedVariables false
set_option linter.unusedSimpArgs false
namespace Go.Proofs.YtbnbaokamccmjaaGreatDoor
open Go Go.RowKit Go.Shelf

attribute [local go_sem] Oper.semAt_some

/-- The places that have come behind k rounds: len - 1, len - 2, .. -/
def downto (len k : Nat) : List Nat := (List.range k).map fun j => len - 1 - j
theorem downto_succ (len k : Nat) : downto len (k + 1) = downto len k ++ [len - 1 - k] := by simp [downto, List.range_succ]
theorem downto_length (len k : Nat) : (downto len k).length = k := by simp [downto]

/-- What a round must keep: what lies below n₀, and Backward's box. -/
def Kb (n₀ Bs : Nat) (W W' : World) : Prop := Below n₀ W W' ∧ ∀ c, W.heap[Bs]? = some (.cells c 212 (0, 0)) → W'.heap[Bs]? = some (.cells c 212 (0, 0))
theorem Kb.refl (n₀ Bs : Nat) (W : World) : Kb n₀ Bs W W := ⟨Below.refl _ _, fun _ h => h⟩
theorem Kb.trans {n₀ Bs : Nat} {A B C : World} (h : Kb n₀ Bs A B) (k : Kb n₀ Bs B C) : Kb n₀ Bs A C := ⟨h.1.trans k.1, fun o e => k.2 o (h.2 o e)⟩
theorem Kb.box {n₀ Bs : Nat} {A B : World} (h : Kb n₀ Bs A B) {v : Value} (hc : A.heap[Bs]? = some (.cells #[v] 212 (0, 0))) : B.cell? ⟨Bs, 0, none⟩ = some v := by
  simp [World.cell?, h.2 _ hc]
theorem Kb.put {n₀ Bs : Nat} {w : World} (hn : n₀ ≤ w.heap.size) (hBs : Bs < w.heap.size) (W : World) (l : Nat) (o o' : Obj) (hl : w.heap.size ≤ l) (h : W.heap[l]? = some o) (h1 : o.isCells = false) (h2 : o.isWalk = false) : Kb n₀ Bs W (W.putObj l o') :=
  ⟨belowK_b hn W l o o' hl h h1 h2, fun x hx => by
    unfold World.putObj
    rw [Array.getElem?_setIfInBounds]
    rw [if_neg (by omega)]
    exact hx⟩

set_option maxRecDepth 100000 in
set_option maxHeartbeats 2000000 in
theorem back1_in (F : Fence) (n : Nat) (h7 : F.fn 229) (hro : F.round = none) (hn : 1 ≤ n) (l Bs n₀ b off len cap : Nat) (zs : List Nat) (hreach : len ≤ 1000000000) (hb : b < n₀) (J Jx : List Nat → World → Prop)
    (hY : ∀ (pre : List Nat) (x : Nat) (W : World), J pre W → pre.length < len → YieldAt F (n - 1) Tryz.prog l #[.int .i64 (x : Int), .int .u32 (wd zs x : Int)] W fun e W' =>
      (e = .returned (.bool true) ∧ J (pre ++ [x]) W' ∧ Kb n₀ Bs W W') ∨ (e = .returned (.bool false) ∧ Jx (pre ++ [x]) W'))
    (W : World) (hBs : W.heap[Bs]? = some (.cells #[.slice (some ⟨b, off, none⟩) len cap] 212 (0, 0))) (hc : ∀ j, j < len → W.cell? ⟨b, off + j, none⟩ = some (.int .u32 (wd zs j : Int))) (h0 : J [] W) :
    CallsIn F n Tryz.prog 229 #[.func (.yield l) #[] #[], .pointer (some ⟨Bs, 0, none⟩)] W fun e W' => (∃ v, e = .returned v) ∧
      ((∃ ys, ys = downto len len ∧ J ys W') ∨ (∃ pre, (∃ k, k ≤ len ∧ pre = downto len k) ∧ Jx pre W')) := by
  refine callsIn_of_wp Tryz.func229 rfl h7 ?_ hro
  simp only [Tryz.ntmps229, List.size_toArray, List.length_cons, List.length_nil, Nat.reduceAdd, Nat.reduceSub, Array.replicate_succ, Array.replicate_zero, List.push_toArray, List.append_toArray, List.nil_append, List.cons_append]
  have hBc := (Kb.refl n₀ Bs W).box hBs
  gi_wp2
  gi_loopw [3] (fun i wr => ∃ k r : Nat, k + r = len ∧ i = .int .i64 ((r : Int) - 1) ∧ J (downto len k) wr ∧ Kb n₀ Bs W wr)
    (fun i _ => (intOf i + 1).toNat)
  case atStart => exact ⟨0, len, by omega, rfl, h0, Kb.refl _ _ _⟩
  case round =>
    obtain ⟨k, r, hk, rfl, hJs, hnx⟩ := hrel
    have hBs' := hnx.box hBs
    by_cases hlt : r = 0
    · subst hlt
      obtain rfl : k = len := by omega
      gi_wp2
      go_end0
      exact ⟨⟨_, rfl⟩, .inl ⟨_, rfl, hJs⟩⟩
    · obtain ⟨r1, rfl⟩ : ∃ r1, r = r1 + 1 := ⟨r - 1, by omega⟩
      have hcx : wr.cell? ⟨b, off + r1, none⟩ = some (.int .u32 (wd zs r1 : Int)) := (hnx.1.cell (p := ⟨b, off + r1, none⟩) hb).trans (hc r1 (by omega))
      obtain ⟨fn, tmps, assign, body, hy, hR⟩ := hY _ r1 wr hJs (by rw [downto_length]; omega)
      have hri : ((r1 + 1 : Nat) : Int) - 1 = (r1 : Int) := by omega
      have hrl : r1 < len := by omega
      have hre : len - 1 - k = r1 := by omega
      rw [hri] at *
      gi_wp2
      refine hR.mono ?_
      rintro e W3 (⟨rfl, hJ3, hk3⟩ | ⟨rfl, hJx3⟩)
      · gi_wp2
        go_roundw
        case rel => exact ⟨k + 1, r1, by omega, rfl, by rw [downto_succ, hre]; exact hJ3, hnx.trans hk3⟩
        case measure => simp [intOf]
      · gi_wp2
        refine bodyPost_ret (results_none rfl _ _ _) rfl ?_
        exact ⟨⟨_, rfl⟩, .inr ⟨_, ⟨k + 1, by omega, by rw [downto_succ, hre]⟩, hJx3⟩⟩

set_option maxHeartbeats 1000000 in
theorem back_in (F : Fence) (n : Nat) (h5 : F.fn 212) (hro : F.round = none) (a : Option Addr) (len cap : Nat) (w : World) :
    CallsIn F n Tryz.prog 212 #[.slice a len cap] w fun e w' => e = .returned (.func (.func 229) #[] #[.pointer (some ⟨w.heap.size, 0, none⟩)]) ∧ w' = w.alloc (.cells #[.slice a len cap] 212) := by
  refine callsIn_of_wp Tryz.func212 rfl h5 ?_ hro
  simp only [Tryz.ntmps212, List.size_toArray, List.length_cons, List.length_nil, Nat.reduceAdd, Nat.reduceSub, Array.replicate_succ, Array.replicate_zero, List.push_toArray, List.append_toArray, List.nil_append, List.cons_append]
  gi_wp2
  go_ret
  exact ⟨rfl, rfl⟩

/-- Backward's value: the places from the last to the first, each with its word. -/
theorem back_stops (F : Fence) (n : Nat) (h7 : F.fn 229) (hro : F.round = none) (hn : 1 ≤ n) (Bs n₀ b off cap : Nat) (zs : List Nat) (hreach : zs.length ≤ 1000000000) (w : World) (hb : b < n₀) (hBl : Bs < w.heap.size) (hn₀ : n₀ ≤ w.heap.size)
    (hc : w.heap[Bs]? = some (.cells #[.slice (some ⟨b, off, none⟩) zs.length cap] 212 (0, 0))) (hcs : ∀ j, j < zs.length → w.cell? ⟨b, off + j, none⟩ = some (.int .u32 (wd zs j : Int))) :
    SeqStopsK F n Tryz.prog 229 #[.pointer (some ⟨Bs, 0, none⟩)] (fun x : Nat => #[Value.int .i64 (x : Int), Value.int .u32 (wd zs x : Int)]) (Kb n₀ Bs) (fun ys => ys = downto zs.length zs.length)
      (fun pre => ∃ k, k ≤ zs.length ∧ pre = downto zs.length k) zs.length w := fun l J Jx W hW _ _ hY h0 => by
  have hW' := hW.mono hn₀
  exact back1_in F n h7 hro hn l Bs n₀ b off zs.length cap zs hreach hb J Jx hY W ((hW.block Bs hBl).trans hc) (fun j hj => (hW'.cell (p := ⟨b, off + j, none⟩) hb).trans (hcs j hj)) h0
end Go.Proofs.YtbnbaokamccmjaaGreatDoor
