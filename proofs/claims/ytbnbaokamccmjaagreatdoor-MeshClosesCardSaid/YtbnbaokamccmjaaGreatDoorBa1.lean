/- Words for the walks: slices that are read, slices of words, worlds that only grow. Plain lemmas on the model's worlds: no function of the program. -/
import Derived.Test.YtbnbaokamccmjaaGreatDoorProg
import Derived.WalkKit
import Derived.Deep.QuietTactic
import Derived.BigQuiet
import Derived.Deep.RegionHeld3
import Derived.OwnWalk
import Derived.Lib.Hide
import Derived.Laws.OwnMore
import Derived.Test.YtbnbaokamccmjaaGreatDoorMa2
import Derived.Test.YtbnbaokamccmjaaGreatDoorMa4
set_option linter.unusedVariables false
set_option linter.unusedSimpArgs false
namespace Go.Proofs.YtbnbaokamccmjaaGreatDoor
open Go Go.RowKit

/-- What lay there is as it was: cells and marks. -/
theorem bcell {W w1 : World} (hb : Below W.heap.size W w1) : (∀ b o, b < W.heap.size → w1.cell? ⟨b, o, none⟩ = W.cell? ⟨b, o, none⟩) ∧ (∀ b o, b < W.heap.size → w1.frozen? ⟨b, o, none⟩ = W.frozen? ⟨b, o, none⟩) :=
  ⟨fun b o h => hb.cell (p := ⟨b, o, none⟩) h, fun b o h => hb.frozen (p := ⟨b, o, none⟩) h⟩
theorem cell_below {w w1 : World} (h : Below w.heap.size w w1) {a : Addr} {v : Value} (hc : w.cell? a = some v) : w1.cell? a = some v := (h.cell (World.block_lt_of_cell? w a hc)).trans hc
theorem below_then {B : Nat} {w w1 w2 : World} (h : Below B w w1) (hB : B ≤ w1.heap.size) (k : Below w1.heap.size w1 w2) : Below B w w2 := h.trans (k.mono hB)
theorem below_drewN {B : Nat} {w W : World} (h : Below B w W) (n : Nat) : Below B w (W.drewN n) := ⟨h.os, h.tape, h.output, h.size, h.block⟩

/-- The call returns a value of which P holds. (A plain definition: the walk's simp does not look into it.) -/
def Ret (P : Value → World → Prop) (e : Ending) (w' : World) : Prop := ∃ v, e = .returned v ∧ P v w'
/-- It returns two values. -/
def Ret2 (P : Value → Value → World → Prop) (e : Ending) (w' : World) : Prop := ∃ v u, e = .returned (.tuple #[v, u]) ∧ P v u w'

/-- A quiet call behind draws. -/
theorem quiet_add_same {P : Program} {f : FuncId} {args : Array Value} {w : World} {a n : Nat} {v : Value}
    (h : Calls P f args (w.drewN (a + n)) fun e w' => e = .returned v ∧ w' = w.drewN (a + n)) :
    Calls P f args (w.drewN (a + n)) fun e w'' => e = .returned v ∧ ∃ m, w'' = w.drewN (a + m) :=
  h.mono fun _ _ ⟨he, hm⟩ => ⟨he, n, hm⟩

/-- v is a slice of n elements of sz cells each, whose cells, in their order, are xs. -/
def Rd (w : World) (sz : Nat) (v : Value) (n : Nat) (xs : List Value) : Prop :=
  xs.length = n * sz ∧ ∃ A cap, v = .slice A n cap ∧ n ≤ cap ∧ cap ≤ maxLen ∧ (0 < n → ∃ b off, A = some ⟨b, off, none⟩ ∧ ∀ j u, xs[j]? = some u → w.cell? ⟨b, off + j, none⟩ = some u)

theorem Rd.below {w w1 : World} {sz n : Nat} {v : Value} {xs : List Value} (h : Rd w sz v n xs) (hb : Below w.heap.size w w1) : Rd w1 sz v n xs := by
  obtain ⟨hl, A, cap, hv, hn, hc, h⟩ := h
  refine ⟨hl, A, cap, hv, hn, hc, fun h0 => ?_⟩
  obtain ⟨b, off, hA, hcell⟩ := h h0
  exact ⟨b, off, hA, fun j u hu => cell_below hb (hcell j u hu)⟩
theorem Rd.own {w : World} {base sz n : Nat} {e : TypeId} {v : Value} {xs : List Value} (h : w.ownsRow base e sz v n xs) : Rd w sz v n xs := by
  refine ⟨h.1, ?_⟩
  rcases h.2 with ⟨rfl, rfl⟩ | ⟨g, cap, cur, rfl, hb, hg, hn, hc, hs, ht⟩
  · exact ⟨none, 0, rfl, Nat.le_refl _, Nat.zero_le _, fun h0 => absurd h0 (by omega)⟩
  · refine ⟨some ⟨g, 0, none⟩, cap, rfl, hn, hc, fun h0 => ⟨g, 0, rfl, fun j u hu => ?_⟩⟩
    have := h.cells (g := g) rfl j u hu
    rw [Nat.zero_add]
    have e : (⟨g, 0, none⟩ : Addr).add j = ⟨g, j, none⟩ := by unfold Addr.add; split <;> simp_all
    rwa [e] at this

/-- Words as cells. -/
def u32s (l : List Nat) : List Value := l.map fun (x : Nat) => .int .u32 (x : Int)
theorem u32s_length (l : List Nat) : (u32s l).length = l.length := by simp [u32s]
theorem u32s_append (a b : List Nat) : u32s (a ++ b) = u32s a ++ u32s b := by simp [u32s]
theorem u32s_get {l : List Nat} {j : Nat} (h : j < l.length) : (u32s l)[j]? = some (.int .u32 (wd l j : Nat)) := by
  simp [u32s, wd, List.getD_eq_getElem?_getD, List.getElem?_eq_getElem h]

/-- v is a slice of the words l. -/
def U32 (w : World) (v : Value) (l : List Nat) : Prop := Rd w 1 v l.length (u32s l)
/-- v is the number n. -/
def Num (w : World) (v : Value) (n : Nat) : Prop := U32 w v (wds n)
theorem U32.below {w w1 : World} {v : Value} {l : List Nat} (h : U32 w v l) (hb : Below w.heap.size w w1) : U32 w1 v l := Rd.below h hb
theorem Num.below {w w1 : World} {v : Value} {n : Nat} (h : Num w v n) (hb : Below w.heap.size w w1) : Num w1 v n := Rd.below h hb
theorem U32.own {w : World} {base : Nat} {e : TypeId} {v : Value} {l : List Nat} (h : w.ownsRow base e 1 v l.length (u32s l)) : U32 w v l := Rd.own h
/-- The slice opened: its shape, and each word's cell. -/
theorem U32.open {w : World} {v : Value} {l : List Nat} (h : U32 w v l) : ∃ A cap, v = .slice A l.length cap ∧ l.length ≤ cap ∧ cap ≤ 9223372036854775807 ∧
    (0 < l.length → ∃ b off, A = some ⟨b, off, none⟩ ∧ ∀ j, j < l.length → w.cell? ⟨b, off + j, none⟩ = some (.int .u32 (wd l j : Nat))) := by
  obtain ⟨_, A, cap, hv, hn, hc, h⟩ := h
  refine ⟨A, cap, hv, hn, by unfold maxLen at hc; exact hc, fun h0 => ?_⟩
  obtain ⟨b, off, hA, hcell⟩ := h h0
  exact ⟨b, off, hA, fun j hj => hcell j _ (u32s_get hj)⟩
theorem U32.mk {w : World} {A : Option Addr} {cap : Nat} {l : List Nat} (hn : l.length ≤ cap) (hc : cap ≤ 9223372036854775807)
    (h : 0 < l.length → ∃ b off, A = some ⟨b, off, none⟩ ∧ ∀ j, j < l.length → w.cell? ⟨b, off + j, none⟩ = some (.int .u32 (wd l j : Nat))) : U32 w (.slice A l.length cap) l := by
  refine ⟨by rw [u32s_length, Nat.mul_one], A, cap, rfl, hn, by unfold maxLen; exact hc, fun h0 => ?_⟩
  obtain ⟨b, off, hA, hcell⟩ := h h0
  refine ⟨b, off, hA, fun j u hu => ?_⟩
  have hj : j < l.length := by
    have := (List.getElem?_eq_some_iff.1 hu).1
    rwa [u32s_length] at this
  rw [u32s_get hj] at hu
  rw [hcell j hj, hu]
/-- The first k words. -/
theorem U32.take {w : World} {A : Option Addr} {cap : Nat} {l : List Nat} (h : U32 w (.slice A l.length cap) l) (k : Nat) (hk : k ≤ l.length) : U32 w (.slice A k cap) (l.take k) := by
  obtain ⟨A', cap', hv, hn, hc, h⟩ := h.open
  cases hv
  have e : (l.take k).length = k := by rw [List.length_take, Nat.min_eq_left hk]
  have := U32.mk (w := w) (A := A) (cap := cap) (l := l.take k) (by omega) hc (fun h0 => by
    obtain ⟨b, off, hA, hcell⟩ := h (by omega)
    refine ⟨b, off, hA, fun j hj => ?_⟩
    rw [hcell j (by omega), wd, wd, List.getD_eq_getElem?_getD, List.getD_eq_getElem?_getD, List.getElem?_take_of_lt (by omega)])
  rwa [e] at this

/-- A list's first words, as many as its value has, are its value's words. -/
theorem take_wds {l : List Nat} (ho : Okw l) : l.take (wds (val l)).length = wds (val l) ∧ (wds (val l)).length ≤ l.length := by
  have hlen : (wds (val l)).length ≤ l.length := wds_lt_pow (val_lt ho)
  refine ⟨?_, hlen⟩
  have key : ∀ k, k ≤ l.length → (∀ j, k ≤ j → j < l.length → l.getD j 0 = 0) → (k = 0 ∨ l.getD (k - 1) 0 ≠ 0) → l.take (wds (val l)).length = wds (val l) := by
    intro k hk hz hl
    have e := take_eq_wds ho hk hz hl
    rw [← e, List.length_take, Nat.min_eq_left hk]
  -- the least such k
  have : ∃ k, k ≤ l.length ∧ (∀ j, k ≤ j → j < l.length → l.getD j 0 = 0) ∧ (k = 0 ∨ l.getD (k - 1) 0 ≠ 0) := by
    have aux : ∀ n, n ≤ l.length → (∀ j, n ≤ j → j < l.length → l.getD j 0 = 0) → ∃ k, k ≤ l.length ∧ (∀ j, k ≤ j → j < l.length → l.getD j 0 = 0) ∧ (k = 0 ∨ l.getD (k - 1) 0 ≠ 0) := by
      intro n
      induction n with
      | zero => intro h1 h2; exact ⟨0, h1, h2, .inl rfl⟩
      | succ n ih =>
        intro h1 h2
        by_cases h : l.getD n 0 = 0
        · refine ih (by omega) (fun j hj1 hj2 => ?_)
          by_cases e : j = n
          · rw [e]; exact h
          · exact h2 j (by omega) hj2
        · exact ⟨n + 1, h1, h2, .inr h⟩
    exact aux l.length (Nat.le_refl _) (fun j h1 h2 => by omega)
  obtain ⟨k, h1, h2, h3⟩ := this
  exact key k h1 h2 h3
end Go.Proofs.YtbnbaokamccmjaaGreatDoor
