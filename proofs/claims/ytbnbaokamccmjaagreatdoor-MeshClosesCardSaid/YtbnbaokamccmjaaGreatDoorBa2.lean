/- Words for the walks: append to a row of the call's own, a row that is made and stored into. Plain lemmas on the model's worlds: no function of the program. -/
import Derived.Test.YtbnbaokamccmjaaGreatDoorNa1
import Derived.Maps.AppendAt
import Derived.Deep.AppendLies
import Derived.Laws.MakeOwn
set_option linter.unusedVariables false
set_option linter.unusedSimpArgs false
namespace Go.Proofs.YtbnbaokamccmjaaGreatDoor
open Go Go.RowKit

theorem heap_new (W : World) (o : Obj) : (W.alloc o).heap[W.heap.size]? = some o := by
  rw [World.alloc]
  exact Array.getElem?_push_size
theorem own_base_le {w : World} {base sz n : Nat} {e : TypeId} {v : Value} {xs : List Value} (h : w.ownsRow base e sz v n xs) (k : Nat) (hk : v.ownBlock = some k) : base ≤ k := (h.lt k hk).1

section
variable {P : Program} {ops : Array Oper} {rest : List Oper} {o : Oper} {a : Act} {Q : Exit → Act → World → Prop}

/-- append(v, x1, .., xm): behind the box that holds the new elements. -/
theorem append_box {w0 W : World} (base : Nat) (hgd : o.guard = none) (s x : Operand) (t e : TypeId) (z : Value) (size bytes : Nat)
    (ho : o.op = .call { callee := .builtin .append, args := #[s, x], argTypes := #[t, t] })
    (ht : P.underlying t = some (.slice e)) (hinfo : (P.info? e).map (fun i => (i.zero, i.size, i.bytes)) = some (some z, size, bytes)) (hz : z.cells.size = size) (hsz : 0 < size) (hb0 : 0 < bytes)
    (v : Value) (n m : Nat) (xs ys : List Value) (hs : a.eval s = v) (hx : a.eval x = .slice (some ⟨W.heap.size, 0, none⟩) m m) (hl : ys.length = m * size) (h1 : ∀ y, y ∈ ys → y.oneCell' = true)
    (HO : W.ownsRow base e size v n xs) (HB : Below base w0 W) (hbase : base ≤ W.heap.size) (hbytes : (n + m) * bytes ≤ 140737488355328)
    (h : ∀ v1 w1, w1.ownsRow base e size v1 (n + m) (xs ++ ys) → Below base w0 w1 → W.grownBy w1 v.ownBlock → wpList P ops Q rest (a.put o.dst v1) w1) :
    wpList P ops Q (o :: rest) a (W.alloc (.cells ys.toArray e)) := by
  obtain ⟨i0, hi, hzz⟩ := Option.map_eq_some_iff.1 hinfo
  simp only [Prod.mk.injEq] at hzz
  obtain ⟨hz0, hz1, hz2⟩ := hzz
  have hlen : n + m ≤ 140737488355328 := Nat.le_trans (Nat.le_mul_of_pos_right _ hb0) hbytes
  refine wpList_append_own_at (W.alloc (.cells ys.toArray e)) hgd s x t ho base e i0 z size bytes ht hi hz0 hz1 hz2 hz hsz v n xs hs (HO.alloc _) ⟨W.heap.size, 0, none⟩ m m ys hx hl ?_ h1 (by unfold maxLen; omega) hbytes (by simp; omega) ?_
  · have hh := World.news_of_block (w := W.alloc (.cells ys.toArray e)) (B := W.heap.size) (cs := ys.toArray) (t := e) (fr := (0, 0)) (heap_new W _)
    simpa using hh
  · intro v1 w1 hown hg _ _
    exact h v1 w1 hown ((HB.alloc hbase _).grown hg (by simp; omega) (own_base_le HO)) ⟨hg.os, hg.tape, hg.output, Nat.le_trans (by simp) hg.size, fun k hk hne => (hg.block k (by simp; omega) hne).trans (Below.heap_alloc _ _ _ hk)⟩

/-- append(v, x), v a row of words. -/
theorem append_word {w0 W : World} (base : Nat) (hgd : o.guard = none) (s x : Operand) (t : TypeId)
    (ho : o.op = .call { callee := .builtin .append, args := #[s, x], argTypes := #[t, t] })
    (ht : P.underlying t = some (.slice 184)) (hinfo : (P.info? 184).map (fun i => (i.zero, i.size, i.bytes)) = some (some (.int .u32 0), 1, 4))
    (v : Value) (l : List Nat) (y : Nat) (u : Value) (hu : u = .int .u32 (y : Int)) (hs : a.eval s = v) (hx : a.eval x = .slice (some ⟨W.heap.size, 0, none⟩) 1 1)
    (HO : Own W base v l) (HB : Below base w0 W) (hbase : base ≤ W.heap.size) (hbytes : l.length < 10000000000000)
    (h : ∀ v1 w1, Own w1 base v1 (l ++ [y]) → Below base w0 w1 → W.grownBy w1 v.ownBlock → wpList P ops Q rest (a.put o.dst v1) w1) :
    wpList P ops Q (o :: rest) a (W.alloc (.cells #[u] 184)) := by
  subst hu
  refine append_box (w0 := w0) (W := W) base hgd s x t 184 (.int .u32 0) 1 4 ho ht hinfo rfl (by omega) (by omega) v l.length 1 (u32s l) [.int .u32 (y : Int)] hs hx rfl (by simp [Value.oneCell']) HO HB hbase (by omega) ?_
  intro v1 w1 h1 h2 h3
  refine h v1 w1 ?_ h2 h3
  show w1.ownsRow _ _ _ _ (l ++ [y]).length (u32s (l ++ [y]))
  rw [List.length_append, List.length_singleton, u32s_append]
  exact h1
end

theorem info_u32 : (Tryz.prog.info? 184).map (fun i => (i.zero, i.size, i.bytes)) = some (some (.int .u32 0), 1, 4) := by kernel_rfl

/-- make([]T, 0, c), make([]T, c, c), T a kind of word: what they come to. -/
theorem make_none (t : TypeId) (ht : Tryz.prog.underlying t = some (.slice 184)) (x : Int) (c : Nat) (hx : x = c) (hc : c ≤ 10000000000000) (W : World) :
    (Instr.makeSlice t (.int .i64 0) (.int .i64 x)).run Tryz.prog W = .ok (.slice (some ⟨W.heap.size, 0, none⟩) 0 c) (W.alloc (.cells (madeCells #[.int .u32 0] c) 184)) := by
  subst hx
  obtain ⟨i0, hi, hzz⟩ := Option.map_eq_some_iff.1 info_u32
  simp only [Prod.mk.injEq] at hzz
  obtain ⟨hz0, hz1, hz2⟩ := hzz
  have h := run_make (P := Tryz.prog) W t 184 i0 _ ht hi hz0 .i64 .i64 0 c (by omega) (by omega) (by rw [hz2]; omega) (by omega)
  rw [h, hz1]
  simp [Value.cells]
theorem make_full (t : TypeId) (ht : Tryz.prog.underlying t = some (.slice 184)) (x : Int) (c : Nat) (hx : x = c) (hc : c ≤ 10000000000000) (W : World) :
    (Instr.makeSlice t (.int .i64 x) (.int .i64 x)).run Tryz.prog W = .ok (.slice (some ⟨W.heap.size, 0, none⟩) c c) (W.alloc (.cells (madeCells #[.int .u32 0] c) 184)) := by
  subst hx
  obtain ⟨i0, hi, hzz⟩ := Option.map_eq_some_iff.1 info_u32
  simp only [Prod.mk.injEq] at hzz
  obtain ⟨hz0, hz1, hz2⟩ := hzz
  have h := run_make (P := Tryz.prog) W t 184 i0 _ ht hi hz0 .i64 .i64 c c (by omega) (by omega) (by rw [hz2]; omega) (by omega)
  rw [h, hz1]
  simp [Value.cells]
/-- A row without a word, with room. -/
theorem own_room (W : World) (c : Nat) (hm : c ≤ 9223372036854775807) :
    Own (W.alloc (.cells (madeCells #[.int .u32 0] c) 184)) W.heap.size (.slice (some ⟨W.heap.size, 0, none⟩) 0 c) [] :=
  World.ownsRow_made W _ c (Nat.le_refl _) (by unfold maxLen; exact hm) (by simp [size_madeCells])

/-- A row that is made: n zeros, room for cap words. -/
theorem own_made (W : World) (n : Nat) (hm : n ≤ 9223372036854775807) :
    Own (W.alloc (.cells (madeCells #[.int .u32 0] n) 184)) W.heap.size (.slice (some ⟨W.heap.size, 0, none⟩) n n) (List.replicate n 0) := by
  have h := World.ownsRow_lit (base := W.heap.size) (e := 184) (size := 1) W (madeCells #[.int .u32 0] n) n (Nat.le_refl _) (by unfold maxLen; exact hm) (by simp [size_madeCells])
  have hl : (madeCells #[Value.int .u32 0] n).toList = u32s (List.replicate n 0) := by
    rw [toList_madeCells_one]
    simp [u32s]
  rw [hl] at h
  show World.ownsRow _ _ _ _ _ (List.replicate n 0).length _
  rw [List.length_replicate]
  exact h

/-- A word of a row of the call's own: its cell, and that it may be written. -/
theorem Own.cell {w : World} {base g cap : Nat} {l : List Nat} (h : Own w base (.slice (some ⟨g, 0, none⟩) l.length cap) l) (j : Nat) (hj : j < l.length) : w.cell? ⟨g, j, none⟩ = some (.int .u32 (wd l j : Nat)) := by
  have := World.ownsRow.cellAt h j (by omega)
  rw [this, u32s_get hj]
theorem Own.free {w : World} {base g cap : Nat} {l : List Nat} (h : Own w base (.slice (some ⟨g, 0, none⟩) l.length cap) l) (j : Nat) : w.frozen? ⟨g, j, none⟩ = false :=
  World.ownsRow.frozenAt h j
theorem Own.at {w : World} {base : Nat} {v : Value} {l : List Nat} (h : Own w base v l) (h0 : 0 < l.length) : ∃ g cap, v = .slice (some ⟨g, 0, none⟩) l.length cap ∧ base ≤ g ∧ g < w.heap.size := by
  rcases h.2 with ⟨_, h1⟩ | ⟨g, cap, cur, h1, h2, h3, _⟩
  · omega
  · exact ⟨g, cap, h1, h2, (Array.getElem?_eq_some_iff.1 h3).1⟩
/-- A word is stored. -/
theorem Own.set {w : World} {base g cap : Nat} {l : List Nat} (h : Own w base (.slice (some ⟨g, 0, none⟩) l.length cap) l) (j y : Nat) :
    Own (w.setCell ⟨g, j, none⟩ (.int .u32 (y : Int))) base (.slice (some ⟨g, 0, none⟩) l.length cap) (l.set j y) := by
  have hs := (World.ownsRow.stored h j (.int .u32 (y : Int))).1
  have he : (u32s l).set j (.int .u32 (y : Int)) = u32s (l.set j y) := by simp [u32s, List.map_set]
  rw [he] at hs
  show World.ownsRow _ _ _ _ _ (l.set j y).length _
  rw [List.length_set]
  exact hs
end Go.Proofs.YtbnbaokamccmjaaGreatDoor
