/- Words for the walks: a block of the call's own, known whole. Plain lemmas on the model's worlds. -/
import Derived.Deep.DeepCutAuto
import Derived.LoopN
import Derived.Test.YtbnbaokamccmjaaGreatDoorQa7
set_option linter.unusedVariables false
set_option linter.unusedSimpArgs false
namespace Go.Proofs.YtbnbaokamccmjaaGreatDoor
open Go Go.RowKit

/-- Block b's cells are vs, and they may be written. -/
structure Bk (w : World) (b : Nat) (vs : List Value) : Prop where
  lt : b < w.heap.size
  cell : ∀ i v, vs[i]? = some v → w.cell? ⟨b, i, none⟩ = some v
  free : ∀ i, w.frozen? ⟨b, i, none⟩ = false

theorem bk_new (w : World) (vs : Array Value) (t : TypeId) : Bk (w.alloc (.cells vs t)) w.heap.size vs.toList := by
  refine ⟨by simp, fun i v h => ?_, fun i => by simp⟩
  rw [Array.getElem?_toList] at h
  simp [h]
theorem bk_new' (w : World) (vs : List Value) (t : TypeId) : Bk (w.alloc (.cells vs.toArray t)) w.heap.size vs := bk_new w vs.toArray t
theorem bk_at {w : World} {vs : Array Value} {t : TypeId} {n : Nat} (hn : n = w.heap.size) : Bk (w.alloc (.cells vs t)) n vs.toList := by
  subst hn; exact bk_new w vs t
theorem Bk.below {w w1 : World} {b : Nat} {vs : List Value} (h : Bk w b vs) (g : Below w.heap.size w w1) : Bk w1 b vs :=
  ⟨Nat.lt_of_lt_of_le h.lt g.size, fun i v hv => bc g (h.cell i v hv), fun i => bfz g h.lt (h.free i)⟩
theorem Bk.alloc {w : World} {b : Nat} {vs : List Value} (h : Bk w b vs) (o : Obj) : Bk (w.alloc o) b vs := h.below (ba (br w))
theorem Bk.drew {w : World} {b : Nat} {vs : List Value} (h : Bk w b vs) : Bk w.drew b vs := h.below (bd (br w))
theorem Bk.far {w : World} {b : Nat} {vs : List Value} (h : Bk w b vs) {p : Addr} (hp : p.block ≠ b) (u : Value) : Bk (w.setCell p u) b vs :=
  ⟨by have := h.lt; simpa using this, fun i v hv => cset (h.cell i v hv) hp, fun i => by have := h.free i; simpa using this⟩
theorem Bk.set {w : World} {b : Nat} {vs : List Value} (h : Bk w b vs) (i : Nat) (hi : i < vs.length) (u : Value) : Bk (w.setCell ⟨b, i, none⟩ u) b (vs.set i u) := by
  refine ⟨by have := h.lt; simpa using this, fun j v hv => ?_, fun j => by have := h.free j; simpa using this⟩
  by_cases e : i = j
  · subst e
    rw [List.getElem?_set_self hi] at hv
    cases hv
    have h0 := h.cell i vs[i] (List.getElem?_eq_getElem hi)
    exact World.cell?_setCell_same (h := h0) ..
  · rw [List.getElem?_set_ne e] at hv
    refine (World.cell?_setCell_other (h := ?_) ..).trans (h.cell j v hv)
    intro h; exact e (by injection h)
theorem Bk.c1 {w : World} {b : Nat} {x : Value} (h : Bk w b [x]) : w.cell? ⟨b, 0, none⟩ = some x ∧ w.frozen? ⟨b, 0, none⟩ = false := ⟨h.cell 0 x rfl, h.free 0⟩
theorem Bk.c2 {w : World} {b : Nat} {x y : Value} (h : Bk w b [x, y]) : w.cell? ⟨b, 0, none⟩ = some x ∧ w.cell? ⟨b, 1, none⟩ = some y ∧ w.frozen? ⟨b, 0, none⟩ = false ∧ w.frozen? ⟨b, 1, none⟩ = false :=
  ⟨h.cell 0 x rfl, h.cell 1 y rfl, h.free 0, h.free 1⟩
theorem Bk.c3 {w : World} {b : Nat} {x y z : Value} (h : Bk w b [x, y, z]) : w.cell? ⟨b, 0, none⟩ = some x ∧ w.cell? ⟨b, 1, none⟩ = some y ∧ w.cell? ⟨b, 2, none⟩ = some z ∧ w.frozen? ⟨b, 0, none⟩ = false ∧ w.frozen? ⟨b, 1, none⟩ = false ∧ w.frozen? ⟨b, 2, none⟩ = false :=
  ⟨h.cell 0 x rfl, h.cell 1 y rfl, h.cell 2 z rfl, h.free 0, h.free 1, h.free 2⟩
end Go.Proofs.YtbnbaokamccmjaaGreatDoor
