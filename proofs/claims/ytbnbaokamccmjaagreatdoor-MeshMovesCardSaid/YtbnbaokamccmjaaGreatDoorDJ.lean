/- garboardref12: rows of triangles of garboardref11's vectors: their cells. -/
import Derived.Test.YtbnbaokamccmjaaGreatDoorDI
import Derived.Great.BuildSlice
import Derived.Test.YtbnbaokamccmjaaGreatDoorDC
set_option linter.unusedVariables false
set_option linter.unusedSimpArgs false
namespace Go.Proofs.YtbnbaokamccmjaaGreatDoor
open Go Go.RowKit
def VC (w : World) (c : List Value) (p : V3) : Prop := ∃ A1 a1 B1 b1 A2 a2 B2 b2 A3 a3 B3 b3,
   c = [.bool (decide (p.x.num < 0)), .slice A1 (wds p.x.num.natAbs).length a1, .slice B1 (wds p.x.den).length b1, .bool (decide (p.y.num < 0)), .slice A2 (wds p.y.num.natAbs).length a2, .slice B2 (wds p.y.den).length b2, .bool (decide (p.z.num < 0)), .slice A3 (wds p.z.num.natAbs).length a3, .slice B3 (wds p.z.den).length b3] ∧ Vn w (.agg c.toArray) p
theorem VC.vn {w : World} {c : List Value} {p : V3} (h : VC w c p) : Vn w (.agg c.toArray) p := by
 obtain ⟨_, _, _, _, _, _, _, _, _, _, _, _, _, h⟩ := h
 exact h
theorem VC.len {w : World} {c : List Value} {p : V3} (h : VC w c p) : c.length = 9 := by
 obtain ⟨_, _, _, _, _, _, _, _, _, _, _, _, rfl, _⟩ := h
 rfl
theorem VC.below {w w1 : World} {c : List Value} {p : V3} (h : VC w c p) (g : Below w.heap.size w w1) : VC w1 c p := by
 obtain ⟨A1, a1, B1, b1, A2, a2, B2, b2, A3, a3, B3, b3, hc, hv⟩ := h
 exact ⟨A1, a1, B1, b1, A2, a2, B2, b2, A3, a3, B3, b3, hc, hv.below g⟩
theorem VC.keep {w w1 : World} {c : List Value} {p : V3} (h : VC w c p) (g : Keep w w1) : VC w1 c p := by
 obtain ⟨A1, a1, B1, b1, A2, a2, B2, b2, A3, a3, B3, b3, hc, hv⟩ := h
 exact ⟨A1, a1, B1, b1, A2, a2, B2, b2, A3, a3, B3, b3, hc, hv.keep g⟩
theorem vc_of {w : World} {z : Value} {p : V3} (h : Vn w z p) : ∃ c, z = .agg c.toArray ∧ VC w c p := by
 have h0 := h
 obtain ⟨A1, a1, B1, b1, A2, a2, B2, b2, A3, a3, B3, b3, rfl, _⟩ := h.open
 exact ⟨_, rfl, A1, a1, B1, b1, A2, a2, B2, b2, A3, a3, B3, b3, rfl, h0⟩
theorem VC.noint {w : World} {c : List Value} {p : V3} (h : VC w c p) : ∀ k i, (Value.int k i) ∉ c := by
 obtain ⟨_, _, _, _, _, _, _, _, _, _, _, _, rfl, _⟩ := h
 intro k i hm
 simp at hm
theorem VC.one {w : World} {c : List Value} {p : V3} (h : VC w c p) : ∀ u ∈ c, u.oneCell' = true := by
 obtain ⟨_, _, _, _, _, _, _, _, _, _, _, _, rfl, _⟩ := h
 intro u hu
 simp only [List.mem_cons, List.not_mem_nil, or_false] at hu
 rcases hu with rfl | rfl | rfl | rfl | rfl | rfl | rfl | rfl | rfl <;> rfl
inductive VRow (w : World) : List Value → List V3 → Prop
 | nil : VRow w [] []
 | cons {c xs : List Value} {p : V3} {ps : List V3} : VC w c p → VRow w xs ps → VRow w (c ++ xs) (p :: ps)
theorem VRow.under {w w1 : World} {xs : List Value} {ps : List V3} (h : VRow w xs ps) (g : Below w.heap.size w w1) : VRow w1 xs ps := by
 induction h with
 | nil => exact .nil
 | cons hc _ ih => exact .cons (hc.below g) ih
theorem VRow.keep {w w1 : World} {xs : List Value} {ps : List V3} (h : VRow w xs ps) (g : Keep w w1) : VRow w1 xs ps := by
 induction h with
 | nil => exact .nil
 | cons hc _ ih => exact .cons (hc.keep g) ih
theorem VRow.len {w : World} {xs : List Value} {ps : List V3} (h : VRow w xs ps) : xs.length = ps.length * 9 := by
 induction h with
 | nil => rfl
 | cons hc _ ih => rw [List.length_append, hc.len, ih, List.length_cons]; omega
theorem VRow.append {w : World} {xs ys : List Value} {ps qs : List V3} (h : VRow w xs ps) (g : VRow w ys qs) : VRow w (xs ++ ys) (ps ++ qs) := by
 induction h with
 | nil => exact g
 | cons hc _ ih => rw [List.append_assoc]; exact .cons hc ih
theorem VRow.one_cell {w : World} {xs : List Value} {ps : List V3} (h : VRow w xs ps) : ∀ u ∈ xs, u.oneCell' = true := by
 induction h with
 | nil => intro u hu; cases hu
 | cons hc _ ih => intro u hu; exact (List.mem_append.1 hu).elim (hc.one u) (ih u)
theorem VRow.noint {w : World} {xs : List Value} {ps : List V3} (h : VRow w xs ps) : ∀ k i, (Value.int k i) ∉ xs := by
 induction h with
 | nil => intro k i hu; cases hu
 | cons hc _ ih => intro k i hu; exact (List.mem_append.1 hu).elim (hc.noint k i) (ih k i)
theorem VRow.get {w : World} {xs : List Value} {ps : List V3} (h : VRow w xs ps) : ∀ {j : Nat} {p : V3}, ps[j]? = some p → ∃ c, VC w c p ∧ ∀ i u, c[i]? = some u → xs[j * 9 + i]? = some u := by
 induction h with
 | nil => intro j p hp; simp at hp
 | @cons c xs q qs hc _ ih =>
   intro j p hp
   cases j with
   | zero =>
     simp at hp
     subst hp
     refine ⟨c, hc, fun i u hu => ?_⟩
     have := (List.getElem?_eq_some_iff.1 hu).1
     rw [Nat.zero_mul, Nat.zero_add, List.getElem?_append_left this]
     exact hu
   | succ j =>
     simp at hp
     obtain ⟨d, hd, hg⟩ := ih hp
     refine ⟨d, hd, fun i u hu => ?_⟩
     rw [List.getElem?_append_right (by rw [hc.len]; omega), hc.len, show (j + 1) * 9 + i - 9 = j * 9 + i by omega]
     exact hg i u hu
def over (xs : List Value) (o : Nat) : List Value → List Value
 | [] => xs
 | u :: us => over (xs.set o u) (o + 1) us
theorem over_left (xs ys : List Value) : ∀ (us : List Value) (zs : List Value) (o : Nat), zs.length = o → us.length ≤ xs.length → over (zs ++ xs ++ ys) o us = zs ++ (us ++ xs.drop us.length) ++ ys := by
 intro us
 induction us generalizing xs with
 | nil => intro zs o _ _; rfl
 | cons u us ih =>
   intro zs o hz hl
   cases xs with
   | nil => simp at hl
   | cons x xs =>
     rw [over]
     have e : (zs ++ (x :: xs) ++ ys).set o u = (zs ++ [u]) ++ xs ++ ys := by
       rw [List.append_assoc, List.set_append_right _ _ (by omega), hz]
       simp
     rw [e, ih xs (zs ++ [u]) (o + 1) (by simp [hz]) (by simpa using hl)]
     simp
theorem VRow.split {w : World} {xs : List Value} {ps : List V3} (h : VRow w xs ps) : ∀ {j : Nat} {p : V3}, ps[j]? = some p → ∃ a c b, xs = a ++ c ++ b ∧ VRow w a (ps.take j) ∧ VC w c p ∧ VRow w b (ps.drop (j + 1)) := by
 induction h with
 | nil => intro j p hp; simp at hp
 | @cons c xs q qs hc hr ih =>
   intro j p hp
   cases j with
   | zero =>
     simp at hp
     subst hp
     exact ⟨[], c, xs, rfl, .nil, hc, hr⟩
   | succ j =>
     simp at hp
     obtain ⟨a, d, b, e, h1, h2, h3⟩ := ih hp
     subst e
     exact ⟨c ++ a, d, b, by simp, .cons hc h1, h2, h3⟩
theorem VRow.set {w : World} {xs c : List Value} {ps : List V3} {j : Nat} {p q : V3} (h : VRow w xs ps) (hp : ps[j]? = some p) (hc : VC w c q) : VRow w (over xs (j * 9) c) (ps.set j q) := by
 obtain ⟨a, d, b, rfl, h1, h2, h3⟩ := h.split hp
 have hj := (List.getElem?_eq_some_iff.1 hp).1
 have ha : a.length = j * 9 := by rw [h1.len, List.length_take]; congr 1; omega
 rw [over_left d b c a (j * 9) ha (by rw [hc.len, h2.len]; exact Nat.le_refl _), hc.len, List.drop_eq_nil_of_le (by rw [h2.len]; exact Nat.le_refl _), List.append_nil]
 have e : ps.set j q = ps.take j ++ q :: ps.drop (j + 1) := by
   rw [List.set_eq_take_append_cons_drop, if_pos hj]
 rw [e, List.append_assoc]
 exact h1.append (.cons hc h3)
theorem own_over {base g cap n sz : Nat} {e : TypeId} : ∀ (us : List Value) (o : Nat) {w : World} {xs : List Value}, w.ownsRow base e sz (.slice (some ⟨g, 0, none⟩) n cap) n xs → (w.setCells g o us).ownsRow base e sz (.slice (some ⟨g, 0, none⟩) n cap) n (over xs o us)
 | [], _, _, _, h => h
 | u :: us, o, _, _, h => own_over us (o + 1) (World.ownsRow.stored h o u).1
end Go.Proofs.YtbnbaokamccmjaaGreatDoor

/- garboardref12: laws on boxes and rows of vectors: a slice literal of one element, an append that keeps numbers, a vector put into a box. -/
namespace Go.Proofs.YtbnbaokamccmjaaGreatDoor
open Go Go.RowKit
def NoInt (xs : List Value) : Prop := ∀ k i, (Value.int k i) ∉ xs
theorem NoInt.append {xs ys : List Value} (h : NoInt xs) (g : NoInt ys) : NoInt (xs ++ ys) := fun k i hm => (List.mem_append.1 hm).elim (h k i) (g k i)
theorem NoInt.drop {xs : List Value} (h : NoInt xs) (n : Nat) : NoInt (xs.drop n) := fun k i hm => h k i (List.mem_of_mem_drop hm)
theorem NoInt.take {xs : List Value} (h : NoInt xs) (n : Nat) : NoInt (xs.take n) := fun k i hm => h k i (List.mem_of_mem_take hm)
theorem keep_refl (w : World) : Keep w w := fun _ _ _ h => h
def OwnT (w : World) (base : Nat) (e : TypeId) (size : Nat) (v : Value) (n : Nat) (xs : List Value) : Prop :=
 w.ownsRow base e size v n xs ∧ ∀ g cur, v.ownBlock = some g → w.heap[g]? = some (.cells cur e (0, 0)) → NoInt cur.toList
theorem OwnT.nil (w : World) (base : Nat) (e : TypeId) (size : Nat) : OwnT w base e size (.slice none 0 0) 0 [] := ⟨World.ownsRow_nil _ _ _ _, fun g cur h => by simp [Value.ownBlock] at h⟩
theorem OwnT.below {w w1 : World} {base sz n : Nat} {e : TypeId} {v : Value} {xs : List Value} (h : OwnT w base e sz v n xs) (hb : Below w.heap.size w w1) : OwnT w1 base e sz v n xs := by
 refine ⟨own_below h.1 hb, fun g cur hg hc => ?_⟩
 have hlt := (h.1.lt g hg).2
 rw [hb.block g hlt] at hc
 exact h.2 g cur hg hc
theorem zeroCells_noint {z : Array Value} (h : NoInt z.toList) (n : Nat) : NoInt (Builtin.zeroCells z n).toList := by
 intro k i hm
 unfold Builtin.zeroCells at hm
 rw [Array.toList_map, List.mem_map] at hm
 obtain ⟨j, hj, e⟩ := hm
 by_cases h0 : z.size = 0
 · rw [h0, Nat.mul_zero] at hj
   simp at hj
 · have hlt : j % z.size < z.size := Nat.mod_lt _ (by omega)
   rw [getElem!_pos z _ hlt] at e
   exact h k i (by rw [← e]; exact Array.getElem_mem_toList hlt)
section
variable {P : Program} (w : World)
theorem run_append_keep (t ty : TypeId) (base : Nat) (e : TypeId) (i : TypeInfo) (z : Value) (size bytes : Nat) (ht : P.underlying t = some (.slice e)) (hi : P.info? e = some i) (hz : i.zero = some z)
   (hsize : i.size = size) (hby : i.bytes = bytes) (hzs : z.cells.size = size) (hsz : 0 < size)
   (v : Value) (n : Nat) (xs : List Value) (hown : OwnT w base e size v n xs)
   (ad : Addr) (m c : Nat) (news : List Value) (hl : news.length = m * size) (hnews : ∀ j u, news[j]? = some u → w.cell? (ad.add j) = some u) (h1 : ∀ u ∈ news, u.oneCell' = true)
   (hm : 0 < m) (h63 : n + m ≤ maxLen) (hbytes : (n + m) * bytes ≤ 140737488355328) (hbase : base ≤ w.heap.size) (hyn : NoInt news) (hzn : NoInt z.cells.toList) :
   ∃ v' w', (Builtin.append_ #[t, t] ty #[v, .slice (some ad) m c]).run P w = .ok v' w' ∧ OwnT w' base e size v' (n + m) (xs ++ news) ∧ w.grownBy w' v.ownBlock ∧ Keep w w' := by
 obtain ⟨hown, hni⟩ := hown
 have hsmall : n + m ≤ 9223372036854775807 := by simp only [maxLen] at h63; omega
 obtain ⟨v', w', hr, h2, h3, -⟩ := run_append_own (P := P) w base t ty e i z size bytes ht hi hz hsize hby hzs hsz v n xs hown ad m c news hl hnews h1 h63 hbytes hbase
 subst hsize
 subst hby
 refine ⟨v', w', hr, ⟨h2, ?_⟩, h3, ?_⟩ <;> rcases hown.2 with ⟨rfl, rfl⟩ | ⟨g, cap, cur, rfl, hbg, hg, hnc, hcm, hcs, htake⟩
 · have hx : xs = [] := List.eq_nil_of_length_eq_zero (by simpa using hown.1)
   subst hx
   have hr2 := run_append_nil (P := P) w t ty e i z ht hi hz ad m c news hl hnews hm (by omega) (by have hb := hbytes; simp only [Nat.zero_add] at hb; omega)
   rw [hr] at hr2
   injection hr2 with e1 e2
   subst e1 e2
   intro g cur hgg hc
   simp only [Value.ownBlock, Option.some.injEq] at hgg
   subst hgg
   rw [show (w.heap.size) = w.drew.heap.size from rfl, heap_alloc_new] at hc
   injection hc with hc
   injection hc with hc
   subst hc
   rw [Array.toList_append]
   exact hyn.append (zeroCells_noint hzn _)
 · have hcn := hni g cur rfl hg
   by_cases hroom : n + m ≤ cap
   · have hfit : n * i.size + news.length ≤ cur.size := by rw [hl, hcs, ← Nat.add_mul]; exact Nat.mul_le_mul_right _ hroom
     have hr2 := run_append_room (P := P) w t ty e i ht hi g n cap cur hg ad m c news hl hnews h1 hroom hfit
     rw [hr] at hr2
     injection hr2 with e1 e2
     subst e1 e2
     intro g' cur' hgg hc
     simp only [Value.ownBlock, Option.some.injEq] at hgg
     subst hgg
     rw [setRow_heap w g cur _ e _ hg] at hc
     injection hc with hc
     injection hc with hc
     subst hc
     exact (NoInt.append (NoInt.append (hcn.take _) hyn) (hcn.drop _))
   · have holds : ∀ j u, xs[j]? = some u → w.cell? ((⟨g, 0, none⟩ : Addr).add j) = some u := hown.cells (g := g) rfl
     have hr2 := run_append_grow (P := P) w t ty e i z ht hi hz ⟨g, 0, none⟩ n cap xs hown.1 holds ad m c news hl hnews (by omega) (by omega) (growslice_fits (by omega) hbytes)
     rw [hr] at hr2
     injection hr2 with e1 e2
     subst e1 e2
     intro g' cur' hgg hc
     simp only [Value.ownBlock, Option.some.injEq] at hgg
     subst hgg
     rw [show (w.heap.size) = w.drew.heap.size from rfl, heap_alloc_new] at hc
     injection hc with hc
     injection hc with hc
     subst hc
     rw [Array.toList_append, Array.toList_append]
     refine NoInt.append (NoInt.append ?_ hyn) (zeroCells_noint hzn _)
     show NoInt xs
     rw [← htake]
     exact hcn.take _
 · intro a k j hc
   exact h3.cell hc (by simp [Value.ownBlock])
 · intro a k j hc
   refine h3.cell hc ?_
   intro hb
   simp only [Value.ownBlock, Option.some.injEq] at hb
   have hcn := hni g cur rfl hg
   obtain ⟨b, o, s⟩ := a
   have hs := World.cell?_spot hc
   simp only at hb hs
   subst hb hs
   rw [cell_of_row w b o cur e (0, 0) hg] at hc
   exact hcn k j (Array.mem_toList_iff.2 (Array.mem_of_getElem? hc))
end
section
variable {P : Program} {ops : Array Oper} {rest : List Oper} {o : Oper} {a : Act} {Q : Exit → Act → World → Prop}
theorem append_keep {w0 X : World} (base : Nat) (hgd : o.guard = none) (s x : Operand) (t e : TypeId) (z : Value) (size bytes : Nat)
   (ho : o.op = .call { callee := .builtin .append, args := #[s, x], argTypes := #[t, t] })
   (ht : P.underlying t = some (.slice e)) (hinfo : (P.info? e).map (fun i => (i.zero, i.size, i.bytes)) = some (some z, size, bytes)) (hz : z.cells.size = size) (hsz : 0 < size) (hb0 : 0 < bytes)
   (v : Value) (n m : Nat) (xs ys : List Value) (hs : a.eval s = v) (p : Nat) (hx : a.eval x = .slice (some ⟨p, 0, none⟩) m m) (hm : 0 < m) (hl : ys.length = m * size) (h1 : ∀ y, y ∈ ys → y.oneCell' = true)
   (HO : OwnT X base e size v n xs) (hbox : X.heap[p]? = some (.cells ys.toArray e (0, 0))) (HB : Below base w0 X) (hbase : base ≤ X.heap.size) (hbytes : (n + m) * bytes ≤ 140737488355328) (hyn : NoInt ys) (hzn : NoInt z.cells.toList)
   (h : ∀ v1 w1, OwnT w1 base e size v1 (n + m) (xs ++ ys) → Below base w0 w1 → Keep X w1 → wpList P ops Q rest (a.put o.dst v1) w1) : wpList P ops Q (o :: rest) a X := by
 obtain ⟨i0, hi, hzz⟩ := Option.map_eq_some_iff.1 hinfo
 simp only [Prod.mk.injEq] at hzz
 obtain ⟨hz0, hz1, hz2⟩ := hzz
 have hlen : n + m ≤ 140737488355328 := Nat.le_trans (Nat.le_mul_of_pos_right _ hb0) hbytes
 obtain ⟨v', w', hr, k1, k2, k3⟩ := run_append_keep (P := P) X t o.type base e i0 z size bytes ht hi hz0 hz1 hz2 hz hsz v n xs HO ⟨p, 0, none⟩ m m ys hl (by
   have hh := World.news_of_block (w := X) (B := p) (cs := ys.toArray) (t := e) (fr := (0, 0)) hbox
   simpa using hh) h1 hm (by unfold maxLen; omega) hbytes hbase hyn hzn
 refine wpList_plain hgd fun K hK => ?_
 unfold Oper.wp execOp
 simp only [ho, resolve, invoke, builtin, Sem.run_bind, Sem.run_pure, Result.andThen_ok, List.map_toArray, List.map_cons, List.map_nil, hs, hx, hr]
 exact hK _ _ (h v' w' k1 (HB.grown k2 hbase (own_base_le HO.1)) k3)
theorem build_one {w : World} (hg : o.guard = none) (t e : TypeId) (x : Operand) (ho : o.op = .buildSlice t 1 #[(0, x)]) (ys : List Value) (hx : a.eval x = .agg ys.toArray) (z : Value) (size bytes : Nat)
   (hu : P.underlying t = some (.slice e)) (hinfo : (P.info? e).map (fun i => (i.zero, i.size, i.bytes)) = some (some z, size, bytes)) (hz : z.cells.size = size) (hl : ys.length = size) (hs : 0 < size) (hs2 : size ≤ 1000)
   (h : wpList P ops Q rest (a.put o.dst (.slice (some ⟨w.heap.size, 0, none⟩) 1 1)) (w.alloc (.cells ys.toArray e))) : wpList P ops Q (o :: rest) a w := by
 obtain ⟨i0, hi, hzz⟩ := Option.map_eq_some_iff.1 hinfo
 simp only [Prod.mk.injEq] at hzz
 obtain ⟨hz0, hz1, hz2⟩ := hzz
 subst hz1
 refine wpList_buildSlice hg t e 1 _ ho ys.toArray i0 z hu hi hz0 (by omega) (by omega) ?_ h
 have hf := Great.fill_whole hs [.agg ys.toArray] ((Array.range (1 * i0.size)).map (z.cells[· % z.cells.size]!)) (by simp [Value.cells, hl]) (by simp)
 simp only [List.zipIdx_cons, List.zipIdx_nil, List.map_cons, List.map_nil] at hf
 simp only [List.map_toArray, List.map_cons, List.map_nil, hx]
 rw [hf]
 simp [Value.cells]
end
theorem Bk.over {b : Nat} : ∀ (us : List Value) (o : Nat) {w : World} {vs : List Value}, Bk w b vs → o + us.length ≤ vs.length → Bk (w.setCells b o us) b (over vs o us)
 | [], _, _, _, h, _ => h
 | u :: us, o, _, vs, h, hl => by
   rw [List.length_cons] at hl
   exact Bk.over us (o + 1) (h.set o (by omega) u) (by rw [List.length_set]; omega)
theorem Bk.keeps {b : Nat} : ∀ (us : List Value) (o : Nat) {w : World} {vs : List Value}, Bk w b vs → o + us.length ≤ vs.length → NoInt vs → NoInt us → Keep w (w.setCells b o us)
 | [], _, w, _, _, _, _, _ => keep_refl w
 | u :: us, o, w, vs, h, hl, hv, hu => by
   rw [List.length_cons] at hl
   have h0 : Keep w (w.setCell ⟨b, o, none⟩ u) := h.keep (List.getElem?_eq_getElem (show o < vs.length by omega)) (fun k j e => hv k j (by rw [← e]; exact List.getElem_mem _)) u
   refine h0.trans (Bk.keeps us (o + 1) (h.set o (by omega) u) (by rw [List.length_set]; omega) ?_ (fun k i hm => hu k i (List.mem_cons_of_mem _ hm)))
   intro k i hm
   rcases List.mem_or_eq_of_mem_set hm with h2 | h2
   · exact hv k i h2
   · exact hu k i (by rw [h2]; exact List.mem_cons_self)
def z27 : List Value := [.bool false, .slice none 0 0, .slice none 0 0, .bool false, .slice none 0 0, .slice none 0 0, .bool false, .slice none 0 0, .slice none 0 0, .bool false, .slice none 0 0, .slice none 0 0, .bool false, .slice none 0 0, .slice none 0 0, .bool false, .slice none 0 0, .slice none 0 0, .bool false, .slice none 0 0, .slice none 0 0, .bool false, .slice none 0 0, .slice none 0 0, .bool false, .slice none 0 0, .slice none 0 0]
theorem z27_noint : NoInt z27 := by
 intro k i hm
 simp [z27] at hm
structure TBox (w : World) (p : Nat) (xs : List Value) (vs : List V3) : Prop where
 bk : Bk w p (xs ++ z27.drop (vs.length * 9))
 row : VRow w xs vs
 le : vs.length ≤ 3
theorem TBox.start {w : World} {p : Nat} (h : Bk w p z27) : TBox w p [] [] := ⟨h, .nil, by simp⟩
theorem TBox.under {w w1 : World} {p : Nat} {xs : List Value} {vs : List V3} (h : TBox w p xs vs) (g : Below w.heap.size w w1) : TBox w1 p xs vs := ⟨h.bk.below g, h.row.under g, h.le⟩
theorem TBox.len {w : World} {p : Nat} {xs : List Value} {vs : List V3} (h : TBox w p xs vs) : (xs ++ z27.drop (vs.length * 9)).length = 27 := by
 have h1 := h.le
 have : z27.length = 27 := rfl
 rw [List.length_append, h.row.len, List.length_drop, this]
 omega
theorem TBox.there {w : World} {p : Nat} {xs : List Value} {vs : List V3} (h : TBox w p xs vs) (hlt : vs.length < 3) : w.there p (vs.length * 9) 9 := fun j hj =>
 ⟨by rw [h.bk.cell (vs.length * 9 + j) _ (List.getElem?_eq_getElem (by rw [h.len]; omega))]; rfl, h.bk.free _⟩
theorem TBox.put {w : World} {p : Nat} {xs c : List Value} {vs : List V3} {q : V3} (h : TBox w p xs vs) (hlt : vs.length < 3) (hc : VC w c q) : TBox (w.setCells p (vs.length * 9) c) p (xs ++ c) (vs ++ [q]) := by
 have hl := h.len
 have hx := h.row.len
 have K : Keep w (w.setCells p (vs.length * 9) c) := h.bk.keeps c (vs.length * 9) (by rw [hl, hc.len]; omega) (NoInt.append h.row.noint (z27_noint.drop _)) hc.noint
 refine ⟨?_, (h.row.keep K).append (by have := VRow.cons (hc.keep K) .nil; rwa [List.append_nil] at this), by rw [List.length_append]; simp; omega⟩
 have hb := h.bk.over c (vs.length * 9) (by rw [hl, hc.len]; omega)
 have hz : z27.length = 27 := rfl
 have ho := over_left (z27.drop (vs.length * 9)) [] c xs (vs.length * 9) hx (by rw [hc.len, List.length_drop]; omega)
 rw [List.append_nil, List.append_nil] at ho
 rw [ho, ← List.append_assoc, hc.len, List.drop_drop] at hb
 rw [List.length_append, List.length_singleton, show (vs.length + 1) * 9 = vs.length * 9 + 9 by omega]
 exact hb
theorem TBox.full {w : World} {p : Nat} {xs : List Value} {vs : List V3} (h : TBox w p xs vs) (h3 : vs.length = 3) : Bk w p xs := by
 have := h.bk
 rw [h3, show z27.drop (3 * 9) = [] from rfl, List.append_nil] at this
 exact this
theorem Bk.range {w : World} {p : Nat} {xs : List Value} (h : Bk w p xs) : w.rangeAt p 0 xs := fun j v hv => by
 rw [Nat.zero_add]
 exact h.cell j v hv
end Go.Proofs.YtbnbaokamccmjaaGreatDoor

/- garboardref12: Read. -/
namespace Go.Proofs.YtbnbaokamccmjaaGreatDoor
open Go Go.RowKit
theorem info_T : (Tryz.prog.info? 97).map (fun i => (i.zero, i.size, i.bytes)) = some (some (.agg z27.toArray), 27, 504) := by kernel_rfl
theorem ts_pts {w : World} {b off k : Nat} {t : TV} (h : ∀ i u, (TV.cells t)[i]? = some u → w.cell? ⟨b, off + (k * 9 + i), none⟩ = some u) : ∀ j s, t.pts[j]? = some s →
   w.cell? ⟨b, off + k * 9 + j * 3, none⟩ = some (.string s.x) ∧ w.cell? ⟨b, off + k * 9 + j * 3 + 1, none⟩ = some (.string s.y) ∧ w.cell? ⟨b, off + k * 9 + j * 3 + 2, none⟩ = some (.string s.z) := by
 intro j s hs
 have hj : j < 3 := (List.getElem?_eq_some_iff.1 hs).1
 obtain ⟨c0, c1, c2, c3, c4, c5, c6, c7, c8⟩ := ts_nine h
 rcases (show j = 0 ∨ j = 1 ∨ j = 2 by omega) with rfl | rfl | rfl
 · cases hs
   exact ⟨c0, c1, c2⟩
 · cases hs
   exact ⟨c3, c4, c5⟩
 · cases hs
   exact ⟨c6, c7, c8⟩
theorem take_vpts {l : List TV} {k : Nat} {t : TV} (h : l[k]? = some t) : (tpts (l.take (k + 1))).map vOf = (tpts (l.take k)).map vOf ++ t.pts.map vOf := by
 have e : l.take (k + 1) = l.take k ++ [t] := by
   rw [List.take_add_one, h]
   rfl
 rw [e]
 unfold tpts
 simp
theorem take_map1 {α β : Type} {l : List α} {f : α → β} {j : Nat} {s : α} (h : l[j]? = some s) : (l.take (j + 1)).map f = (l.take j).map f ++ [f s] := by
 rw [List.take_add_one, h, List.map_append]
 rfl
set_option maxHeartbeats 4000000 in
set_option maxRecDepth 100000 in
theorem rRead_walk (v : Value) (l : List TV) (w : World) (hv : Ts w v l) (hs : tle l 10000000) (hm : l.length ≤ 1000000) :
   Calls Tryz.prog 67 #[v] w (Ret fun u w' => (∃ xs, w'.ownsRow w.heap.size 97 27 u l.length xs ∧ VRow w' xs ((tpts l).map vOf)) ∧ Below w.heap.size w w') := by
 obtain ⟨A, cap, rfl, hn, hc, hcell⟩ := hv.open
 have HCL := Lib.hid hcell
 have HS := Lib.hid hs
 have HTE := Lib.hid (show l.take l.length = l from List.take_length)
 obtain ⟨n, hn0⟩ : ∃ n, n = l.length := ⟨_, rfl⟩
 have HG := Lib.hid (fun k (hk : k < n) => (show ∃ s, l[k]? = some s from ⟨_, List.getElem?_eq_getElem (by rw [← hn0]; exact hk)⟩))
 rw [← hn0] at hn HCL HTE hm ⊢
 clear hn0 hv hcell hs
 go_enter Tryz.func67, Tryz.ntmps67
 go_wp2
 go_loopw [3, 4] (fun ov ii wr => ∃ k : Nat, ∃ xs, k ≤ n ∧ ii = .int .i64 k ∧ Hid (OwnT wr w.heap.size 97 27 ov k xs ∧ VRow wr xs ((tpts (l.take k)).map vOf)) ∧ Below w.heap.size w wr) (fun _ ii _ => n - (intOf ii).toNat)
 case atStart => exact ⟨0, [], by omega, rfl, Lib.hid ⟨OwnT.nil _ _ _ _, by rw [List.take_zero]; exact .nil⟩, Below.refl _ _⟩
 case round =>
   obtain ⟨k, xs, hk, rfl, hown, hb⟩ := hrel
   by_cases hlt : k < n
   · obtain ⟨t, hg⟩ := HG.out k hlt
     obtain ⟨b, off, rfl, hcl⟩ := HCL.out (by omega)
     have HP := Lib.hid (ts_pts (fun i u hu => cell_below hb (hcl _ _ hg i u hu)))
     have HL := Lib.hid (tle_at HS.out hg)
     have HST := Lib.hid (take_vpts hg)
     have hk0 : (0 : Int) ≤ (k : Int) := by omega
     have hkn : (k : Int) < (n : Int) := by omega
     have hsz := hb.size
     clear hg hcl
     obtain ⟨V0, hV0⟩ : ∃ x, x = wr := ⟨_, rfl⟩
     subst hV0
     go_wp2
     go_loopw [6] (fun jj wx => ∃ ys vs, ∃ j : Nat, j ≤ 3 ∧ jj = .int .i64 j ∧ Hid (TBox wx V0.heap.size ys vs ∧ vs.length = j ∧ vs = (t.pts.take j).map vOf) ∧ Below V0.heap.size V0 wx) (fun jj _ => 3 - (intOf jj).toNat)
     case atStart => exact ⟨[], [], 0, by omega, rfl, Lib.hid ⟨TBox.start (bk_at rfl), rfl, rfl⟩, bel⟩
     case round =>
       obtain ⟨ys, vs, j, hj, rfl, htb, hbx⟩ := hrel
       have hsx := hbx.size
       by_cases hjt : j < 3
       · obtain ⟨s, hs⟩ : ∃ s, t.pts[j]? = some s := ⟨_, List.getElem?_eq_getElem hjt⟩
         obtain ⟨c0, c1, c2⟩ := HP.out _ _ hs
         have c0 := cell_below hbx c0
         have c1 := cell_below hbx c1
         have c2 := cell_below hbx c2
         have hsl : s.le 10000000 := by
           obtain ⟨l0, l1, l2⟩ := HL.out
           have := List.mem_of_getElem? hs
           simp only [Tr.pts, List.mem_cons, List.not_mem_nil, or_false] at this
           rcases this with rfl | rfl | rfl <;> assumption
         have HF := Lib.hid (fun w => wFrom_walk s hsl w)
         have HVS := Lib.hid (take_map1 (f := vOf) hs)
         have hj0 : (0 : Int) ≤ (j : Int) := by omega
         have hjn : (j : Int) < 3 := by omega
         clear hs hsl HP
         unfold SV.val at HF
         generalize s.x = x0 at *
         generalize s.y = y0 at *
         generalize s.z = z0 at *
         generalize isVec s = r at *
         go_wp2_with fail
         refine (HF.out _).mono ?_
         rintro e w2 ⟨z, rfl, hz, g⟩
         obtain ⟨c, rfl, hcv⟩ := vc_of hz
         obtain ⟨htb1, hvl, hvs⟩ := htb.out
         have HT2 := Lib.hid (htb1.under g)
         have hb2 : Below V0.heap.size V0 w2 := bn hbx g
         have hs2 := hb2.size
         have HTH : Hid (w2.there V0.heap.size (j * 9) c.toArray.size) := Lib.hid (by
           have := HT2.out.there (by omega)
           rw [hvl] at this
           have hcs : c.toArray.size = 9 := hcv.len
           rw [hcs]
           exact this)
         have HSZ : Hid ((Tryz.prog.info? 86).map (·.size) = some c.toArray.size) := Lib.hid (by rw [List.size_toArray, hcv.len]; kernel_rfl)
         have HON : Hid (c.toArray.all (·.oneCell') = true) := Lib.hid (all_oneCell_toArray hcv.one)
         have HPU : Hid (TBox (w2.setCells V0.heap.size (j * 9) c) V0.heap.size (ys ++ c) (vs ++ [vOf s])) := Lib.hid (by
           have := HT2.out.put (by omega) hcv
           rwa [hvl] at this)
         have HB3 : Hid (Below V0.heap.size V0 (w2.setCells V0.heap.size (j * 9) c)) := Lib.hid (r_below_cells (Nat.le_refl _) c (j * 9) hb2)
         have HVE : Hid ((vs ++ [vOf s]).length = j + 1 ∧ vs ++ [vOf s] = (t.pts.take (j + 1)).map vOf) := Lib.hid ⟨by rw [List.length_append, hvl]; rfl, by rw [HVS.out, ← hvs]⟩
         clear hz hcv htb1 hvl hvs htb HT2 HVS g hb2 c0 c1 c2 HL
         go_wp2_with (refine wpList_store_mid rfl 86 (.tmp 28) (.tmp 26) rfl V0.heap.size (j * 9) c.toArray rfl rfl HTH.out HSZ.out HON.out ?_)
         go_roundw
         case rel => exact ⟨ys ++ c, vs ++ [vOf s], j + 1, by omega, by go_num, Lib.hid ⟨HPU.out, HVE.out⟩, HB3.out⟩
         case measure => simp [intOf]; omega
       · obtain rfl : j = 3 := by omega
         obtain ⟨htb1, hvl, hvs⟩ := htb.out
         have HRG := Lib.hid (htb1.full hvl).range
         have hyl : ys.length = 27 := by rw [htb1.row.len, hvl]
         have HYL := Lib.hid hyl
         have HON := Lib.hid htb1.row.one_cell
         have HNI := Lib.hid htb1.row.noint
         have HSZ : Hid ((Tryz.prog.info? 97).map (·.size) = some ys.length) := Lib.hid (by rw [hyl]; kernel_rfl)
         have HO1 : Hid (OwnT wr w.heap.size 97 27 u3 k xs) := Lib.hid (hown.out.1.below hbx)
         have HR1 : Hid (VRow wr (xs ++ ys) ((tpts (l.take (k + 1))).map vOf)) := Lib.hid (by
           rw [HST.out]
           have e3 : vs = t.pts.map vOf := by rw [hvs]; rfl
           rw [← e3]
           exact (hown.out.2.under hbx).append htb1.row)
         have hb3 : Below w.heap.size w wr := bn hb hbx
         clear htb htb1 hvl hvs hyl hown HST HP
         go_wp2_with (first
           | (refine wpList_load_mid rfl 97 (.tmp 5) rfl V0.heap.size 0 rfl ys _ HRG.out Tryz.underlying97 rfl HSZ.out ?_)
           | (refine build_one rfl 94 97 (.tmp 30) rfl ys rfl _ 27 504 Tryz.underlying94 info_T rfl HYL.out (by omega) (by omega) ?_)
           | (at_builtin; refine append_keep (w0 := w) w.heap.size rfl (.tmp 29) (.tmp 31) 94 97 _ 27 504 rfl Tryz.underlying94 info_T rfl (by omega) (by omega) _ k 1 xs ys rfl wr.heap.size rfl (by omega) HYL.out HON.out (HO1.out.below (ba (br _))) (box_at _ _ rfl) bel (by (try simp) <;> omega) (by omega) HNI.out z27_noint ?_; intro v1 w1 hown1 hb1 hk1))
         have HO2 : Hid (OwnT w1 w.heap.size 97 27 v1 (k + 1) (xs ++ ys) ∧ VRow w1 (xs ++ ys) ((tpts (l.take (k + 1))).map vOf)) := Lib.hid ⟨hown1, (HR1.out.under (ba (br _))).keep hk1⟩
         clear hown1 hk1 HO1 HR1
         go_wp2
         go_roundw
         case rel => exact ⟨k + 1, xs ++ ys, by omega, by go_num, HO2, hb1⟩
         case measure => simp [intOf]; omega
   · obtain rfl : k = n := by omega
     rw [HTE.out] at hown
     go_wp2
     go_ret
     exact ⟨_, rfl, ⟨xs, hown.out.1.1, hown.out.2⟩, hb⟩
end Go.Proofs.YtbnbaokamccmjaaGreatDoor

/- garboardref12: Write. -/
namespace Go.Proofs.YtbnbaokamccmjaaGreatDoor
open Go Go.RowKit
theorem tpts_at {α : Type} : ∀ {L : List (Tr α)} {k j : Nat} {t : Tr α} {p : α}, L[k]? = some t → t.pts[j]? = some p → (tpts L)[k * 3 + j]? = some p
 | [], _, _, _, _, h, _ => by simp at h
 | a :: L, 0, j, t, p, h, hp => by
   simp at h
   subst h
   have hj : j < a.pts.length := (List.getElem?_eq_some_iff.1 hp).1
   show (a.pts ++ tpts L)[0 * 3 + j]? = _
   rw [Nat.zero_mul, Nat.zero_add, List.getElem?_append_left hj]
   exact hp
 | a :: L, k + 1, j, t, p, h, hp => by
   have ih := tpts_at (L := L) (k := k) (by simpa using h) hp
   show (a.pts ++ tpts L)[(k + 1) * 3 + j]? = _
   have e3 : a.pts.length = 3 := rfl
   rw [List.getElem?_append_right (by omega), e3, show (k + 1) * 3 + j - 3 = k * 3 + j by omega]
   exact ih
theorem svs_cells1 (l : List SV) : ∀ y, y ∈ svs l → y.oneCell' = true := by
 intro y hy
 unfold svs at hy
 obtain ⟨s, _, h⟩ := List.mem_flatMap.1 hy
 simp only [List.mem_cons, List.not_mem_nil, or_false, SV.cells] at h
 rcases h with rfl | rfl | rfl <;> rfl
def e9 : List Value := [.string ⟨#[]⟩, .string ⟨#[]⟩, .string ⟨#[]⟩, .string ⟨#[]⟩, .string ⟨#[]⟩, .string ⟨#[]⟩, .string ⟨#[]⟩, .string ⟨#[]⟩, .string ⟨#[]⟩]
structure SBox (w : World) (p : Nat) (ss : List SV) : Prop where
 bk : Bk w p (svs ss ++ e9.drop (ss.length * 3))
 le : ss.length ≤ 3
theorem SBox.start {w : World} {p : Nat} (h : Bk w p e9) : SBox w p [] := ⟨h, by simp⟩
theorem SBox.under {w w1 : World} {p : Nat} {ss : List SV} (h : SBox w p ss) (g : Below w.heap.size w w1) : SBox w1 p ss := ⟨h.bk.below g, h.le⟩
theorem SBox.len {w : World} {p : Nat} {ss : List SV} (h : SBox w p ss) : (svs ss ++ e9.drop (ss.length * 3)).length = 9 := by
 have h1 := h.le
 have : e9.length = 9 := rfl
 rw [List.length_append, svs_length, List.length_drop, this]
 omega
theorem SBox.there {w : World} {p : Nat} {ss : List SV} (h : SBox w p ss) (hlt : ss.length < 3) : w.there p (ss.length * 3) 3 := fun j hj =>
 ⟨by rw [h.bk.cell (ss.length * 3 + j) _ (List.getElem?_eq_getElem (by rw [h.len]; omega))]; rfl, h.bk.free _⟩
theorem SBox.put {w : World} {p : Nat} {ss : List SV} {s : SV} (h : SBox w p ss) (hlt : ss.length < 3) : SBox (w.setCells p (ss.length * 3) [.string s.x, .string s.y, .string s.z]) p (ss ++ [s]) := by
 have hl := h.len
 refine ⟨?_, by rw [List.length_append]; simp; omega⟩
 have hb := h.bk.over [.string s.x, .string s.y, .string s.z] (ss.length * 3) (by rw [hl]; simp; omega)
 have hz : e9.length = 9 := rfl
 have ho := over_left (e9.drop (ss.length * 3)) [] [.string s.x, .string s.y, .string s.z] (svs ss) (ss.length * 3) (svs_length ss) (by rw [List.length_drop]; simp; omega)
 rw [List.append_nil, List.append_nil] at ho
 rw [ho, ← List.append_assoc, List.drop_drop] at hb
 rw [List.length_append, List.length_singleton, svs_append, show (ss.length + 1) * 3 = ss.length * 3 + 3 by omega]
 exact hb
theorem SBox.full {w : World} {p : Nat} {ss : List SV} (h : SBox w p ss) (h3 : ss.length = 3) : Bk w p (svs ss) := by
 have := h.bk
 rw [h3, show e9.drop (3 * 3) = [] from rfl, List.append_nil] at this
 exact this
theorem vrow_cells {w : World} {b off k j : Nat} {xs : List Value} {P : List V3} {p : V3} (hr : VRow w xs P) (hc : ∀ i u, xs[i]? = some u → w.cell? ⟨b, off + i, none⟩ = some u) (hp : P[k * 3 + j]? = some p) :
   ∃ c, VC w c p ∧ w.rangeAt b (off + k * 27 + j * 9) c := by
 obtain ⟨c, h1, h2⟩ := hr.get hp
 refine ⟨c, h1, fun i u hu => ?_⟩
 have := hc _ _ (h2 i u hu)
 rw [show off + k * 27 + j * 9 + i = off + ((k * 3 + j) * 9 + i) by omega]
 exact this
theorem range_under {w w1 : World} {b o : Nat} {c : List Value} (h : w.rangeAt b o c) (g : Below w.heap.size w w1) : w1.rangeAt b o c := fun j v hv => cell_below g (h j v hv)
theorem take_txt {L : List (Tr V3)} {k : Nat} {t : Tr V3} (h : L[k]? = some t) : tcs ((L.take (k + 1)).map txt) = tcs ((L.take k).map txt) ++ svs (t.pts.map txv) := by
 rw [take_map1 h, tcs_append, tcs_one]
 rfl
set_option maxHeartbeats 4000000 in
set_option maxRecDepth 100000 in
theorem rWrite_walk (v : Value) (L : List (Tr V3)) (xs : List Value) (w : World) (hv : Rd w 27 v L.length xs) (hr : VRow w xs (tpts L)) (hs : ∀ p ∈ tpts L, p.le 1000000) (hm : L.length ≤ 1000000) :
   Calls Tryz.prog 69 #[v] w (Ret fun u w' => Ts w' u (L.map txt) ∧ Below w.heap.size w w') := by
 obtain ⟨-, A, cap, rfl, hn, hc, hcell⟩ := hv
 have hc : cap ≤ 9223372036854775807 := by unfold maxLen at hc; exact hc
 have HCL := Lib.hid hcell
 have HS := Lib.hid hs
 have HR := Lib.hid hr
 have HTE := Lib.hid (show L.take L.length = L from List.take_length)
 obtain ⟨n, hn0⟩ : ∃ n, n = L.length := ⟨_, rfl⟩
 have HG := Lib.hid (fun k (hk : k < n) => (show ∃ s, L[k]? = some s from ⟨_, List.getElem?_eq_getElem (by rw [← hn0]; exact hk)⟩))
 have HL0 := Lib.hid hn0
 rw [← hn0] at hn HCL HTE hm ⊢
 clear hn0 hcell hs hr
 go_enter Tryz.func69, Tryz.ntmps69
 go_wp2
 go_loopw [3, 4] (fun ov ii wr => ∃ k : Nat, k ≤ n ∧ ii = .int .i64 k ∧ Hid (wr.ownsRow w.heap.size 43 9 ov k (tcs ((L.take k).map txt))) ∧ Below w.heap.size w wr) (fun _ ii _ => n - (intOf ii).toNat)
 case atStart => exact ⟨0, by omega, rfl, Lib.hid (World.ownsRow_nil _ _ _ _), Below.refl _ _⟩
 case round =>
   obtain ⟨k, hk, rfl, hown, hb⟩ := hrel
   by_cases hlt : k < n
   · obtain ⟨t, hg⟩ := HG.out k hlt
     obtain ⟨b, off, rfl, hcl⟩ := HCL.out (by omega)
     have HP := Lib.hid (fun (j : Nat) (p : V3) (h : t.pts[j]? = some p) => vrow_cells HR.out hcl (tpts_at hg h))
     have HPL := Lib.hid (fun (j : Nat) (p : V3) (h : t.pts[j]? = some p) => HS.out p (List.mem_of_getElem? (tpts_at hg h)))
     have HST := Lib.hid (take_txt hg)
     have hk0 : (0 : Int) ≤ (k : Int) := by omega
     have hkn : (k : Int) < (n : Int) := by omega
     have hsz := hb.size
     clear hg hcl
     obtain ⟨V0, hV0⟩ : ∃ x, x = wr := ⟨_, rfl⟩
     subst hV0
     go_wp2
     go_loopw [6] (fun jj wx => ∃ ss, ∃ j : Nat, j ≤ 3 ∧ jj = .int .i64 j ∧ Hid (SBox wx V0.heap.size ss ∧ ss.length = j ∧ ss = (t.pts.take j).map txv) ∧ Below V0.heap.size V0 wx) (fun jj _ => 3 - (intOf jj).toNat)
     case atStart => exact ⟨[], 0, by omega, rfl, Lib.hid ⟨SBox.start (bk_at rfl), rfl, rfl⟩, bel⟩
     case round =>
       obtain ⟨ss, j, hj, rfl, htb, hbx⟩ := hrel
       have hsx := hbx.size
       by_cases hjt : j < 3
       · obtain ⟨p, hs⟩ : ∃ s, t.pts[j]? = some s := ⟨_, List.getElem?_eq_getElem hjt⟩
         obtain ⟨c, hcv, hcr⟩ := HP.out _ _ hs
         have HCR := Lib.hid (range_under hcr (bn hb hbx))
         have HCV := Lib.hid ((hcv.below (bn hb hbx)).vn)
         have HSZ : Hid ((Tryz.prog.info? 86).map (·.size) = some c.length) := Lib.hid (by rw [hcv.len]; kernel_rfl)
         have hpl := HPL.out _ _ hs
         have HF := Lib.hid (fun ux w h => wTo_walk ux p w h hpl)
         have HVS := Lib.hid (take_map1 (f := txv) hs)
         have hj0 : (0 : Int) ≤ (j : Int) := by omega
         have hjn : (j : Int) < 3 := by omega
         obtain ⟨htb1, hvl, hvs⟩ := htb.out
         have HVE : Hid ((ss ++ [txv p]).length = j + 1 ∧ ss ++ [txv p] = (t.pts.take (j + 1)).map txv) := Lib.hid ⟨by rw [List.length_append, hvl]; rfl, by rw [HVS.out, ← hvs]⟩
         have HTB := Lib.hid htb1
         have HVL := Lib.hid hvl
         clear hs hcv hcr HP hpl HVS htb htb1 hvl hvs
         unfold VV at HF
         go_wp2_with (refine wpList_load_mid rfl 86 (.tmp 22) rfl b (off + k * 27 + j * 9) rfl c _ HCR.out Tryz.underlying86 rfl HSZ.out ?_)
         refine (HF.out _ _ HCV.out).mono ?_
         rintro e w2 ⟨rfl, g⟩
         have HT2 := Lib.hid (HTB.out.under g)
         have hb2 : Below V0.heap.size V0 w2 := bn hbx g
         have hs2 := hb2.size
         have HTH : Hid (w2.there V0.heap.size (j * 3) 3) := Lib.hid (by
           have := HT2.out.there (by rw [HVL.out]; omega)
           rwa [HVL.out] at this)
         have HPU : Hid (SBox (w2.setCells V0.heap.size (j * 3) [.string (rtx p.x), .string (rtx p.y), .string (rtx p.z)]) V0.heap.size (ss ++ [txv p])) := Lib.hid (by
           have := HT2.out.put (s := txv p) (by rw [HVL.out]; omega)
           rwa [HVL.out] at this)
         have HB3 : Hid (Below V0.heap.size V0 (w2.setCells V0.heap.size (j * 3) [.string (rtx p.x), .string (rtx p.y), .string (rtx p.z)])) := Lib.hid (r_below_cells (Nat.le_refl _) _ (j * 3) hb2)
         have HS3 : Hid ((Tryz.prog.info? 25).map (·.size) = some 3) := Lib.hid (by kernel_rfl)
         have HON3 : Hid ((#[Value.string (rtx p.x), .string (rtx p.y), .string (rtx p.z)] : Array Value).all (·.oneCell') = true) := Lib.hid (by simp [Value.oneCell'])
         clear HT2 g hb2 HCR HCV HTB HVL
         go_wp2_with (refine wpList_store_mid rfl 25 (.tmp 25) (.tmp 24) rfl V0.heap.size (j * 3) #[.string (rtx p.x), .string (rtx p.y), .string (rtx p.z)] rfl rfl HTH.out HS3.out HON3.out ?_)
         go_roundw
         case rel => exact ⟨ss ++ [txv p], j + 1, by omega, by go_num, Lib.hid ⟨HPU.out, HVE.out⟩, HB3.out⟩
         case measure => simp [intOf]; omega
       · obtain rfl : j = 3 := by omega
         obtain ⟨htb1, hvl, hvs⟩ := htb.out
         have HRG := Lib.hid (htb1.full hvl).range
         have hyl : (svs ss).length = 9 := by rw [svs_length, hvl]
         have HYL := Lib.hid hyl
         have HON : Hid (∀ u ∈ svs ss, u.oneCell' = true) := Lib.hid (svs_cells1 ss)
         have HSZ : Hid ((Tryz.prog.info? 43).map (·.size) = some (svs ss).length) := Lib.hid (by rw [hyl]; kernel_rfl)
         have HO1 : Hid (wr.ownsRow w.heap.size 43 9 u3 k (tcs ((L.take k).map txt))) := Lib.hid (own_below hown.out hbx)
         have HSS : Hid (tcs ((L.take (k + 1)).map txt) = tcs ((L.take k).map txt) ++ svs ss) := Lib.hid (by
           rw [HST.out, hvs]
           rfl)
         have hb3 : Below w.heap.size w wr := bn hb hbx
         generalize svs ss = ys at *
         clear htb htb1 hvl hvs hyl hown HST HP HPL
         go_wp2_with (first
           | (refine wpList_load_mid rfl 43 (.tmp 5) rfl V0.heap.size 0 rfl ys _ HRG.out Tryz.underlying43 rfl HSZ.out ?_)
           | (refine build_one rfl 33 43 (.tmp 27) rfl ys rfl _ 9 144 Tryz.underlying33 info_tri rfl HYL.out (by omega) (by omega) ?_)
           | (at_builtin; refine append_at (w0 := w) w.heap.size rfl (.tmp 26) (.tmp 28) 33 43 _ 9 144 rfl Tryz.underlying33 info_tri rfl (by omega) (by omega) _ k 1 (tcs ((L.take k).map txt)) ys rfl wr.heap.size rfl (by omega) HYL.out HON.out (HO1.out.alloc _) (box_at _ _ rfl) bel (by (try simp) <;> omega) (by omega) ?_; intro v1 w1 hown1 hb1 hk1))
         have HO2 : Hid (w1.ownsRow w.heap.size 43 9 v1 (k + 1) (tcs ((L.take (k + 1)).map txt))) := Lib.hid (by rw [HSS.out]; exact hown1)
         clear hown1 hk1 HO1
         go_wp2
         go_roundw
         case rel => exact ⟨k + 1, by omega, by go_num, HO2, hb1⟩
         case measure => simp [intOf]; omega
   · obtain rfl : k = n := by omega
     rw [HTE.out] at hown
     have HE : Hid (∀ u, wr.ownsRow w.heap.size 43 9 u k (tcs (L.map txt)) → Ts wr u (L.map txt)) := Lib.hid (fun u h => by
       refine Ts.own (base := w.heap.size) (e := 43) ?_
       rw [List.length_map, ← HL0.out]
       exact h)
     go_wp2
     go_ret
     exact ⟨_, rfl, HE.out _ hown.out, hb⟩
end Go.Proofs.YtbnbaokamccmjaaGreatDoor

/- garboardref12: Move. -/
namespace Go.Proofs.YtbnbaokamccmjaaGreatDoor
open Go Go.RowKit
theorem keep_range {w : World} {b o : Nat} {c us : List Value} (hr : w.rangeAt b o c) (hl : us.length = c.length) (hn : NoInt c) : Keep w (w.setCells b o us) := fun p k i hp => by
 rw [World.cell?_setCells_out b us o w p (fun h1 h2 => ?_)]
 · exact hp
 · rcases Nat.lt_or_ge p.off o with h3 | h3
   · exact .inl h3
   · rcases Nat.lt_or_ge p.off (o + us.length) with h4 | h4
     · exfalso
       obtain ⟨pb, po, ps⟩ := p
       simp only at h1 h2 h3 h4
       subst h1 h2
       have hlt : po - o < c.length := by omega
       have := hr (po - o) _ (List.getElem?_eq_getElem hlt)
       rw [show o + (po - o) = po by omega, hp] at this
       exact hn k i (by rw [Option.some.inj this]; exact List.getElem_mem _)
     · exact .inr h4
structure MRow (w : World) (B g n cap : Nat) (xs : List Value) (P : List V3) : Prop where
 own : w.ownsRow B 97 27 (.slice (some ⟨g, 0, none⟩) n cap) n xs
 row : VRow w xs P
theorem MRow.under {w w1 : World} {B g n cap : Nat} {xs : List Value} {P : List V3} (h : MRow w B g n cap xs P) (hb : Below w.heap.size w w1) : MRow w1 B g n cap xs P := ⟨own_below h.own hb, h.row.under hb⟩
theorem MRow.len {w : World} {B g n cap : Nat} {xs : List Value} {P : List V3} (h : MRow w B g n cap xs P) : P.length = n * 3 := by
 have h1 := h.row.len
 have h2 := h.own.1
 omega
theorem MRow.cells {w : World} {B g n cap m : Nat} {xs : List Value} {P : List V3} {p : V3} (h : MRow w B g n cap xs P) (hp : P[m]? = some p) : ∃ c, VC w c p ∧ w.rangeAt g (m * 9) c := by
 obtain ⟨c, h1, h2⟩ := h.row.get hp
 have hm : m < P.length := (List.getElem?_eq_some_iff.1 hp).1
 rw [h.len] at hm
 refine ⟨c, h1, fun i u hu => ?_⟩
 have hi : i < 9 := by have := (List.getElem?_eq_some_iff.1 hu).1; rwa [h1.len] at this
 rw [h.own.cellAt _ (by omega)]
 exact h2 i u hu
theorem MRow.there {w : World} {B g n cap m : Nat} {xs : List Value} {P : List V3} {p : V3} (h : MRow w B g n cap xs P) (hp : P[m]? = some p) : w.there g (m * 9) 9 := fun j hj => by
 obtain ⟨c, h1, h2⟩ := h.cells hp
 refine ⟨by rw [h2 j _ (List.getElem?_eq_getElem (by rw [h1.len]; exact hj))]; rfl, h.own.frozenAt _⟩
theorem MRow.put {w : World} {B g n cap m : Nat} {xs c2 : List Value} {P : List V3} {p q : V3} (h : MRow w B g n cap xs P) (hp : P[m]? = some p) (hc : VC w c2 q) : MRow (w.setCells g (m * 9) c2) B g n cap (over xs (m * 9) c2) (P.set m q) := by
 obtain ⟨c, h1, h2⟩ := h.cells hp
 have K : Keep w (w.setCells g (m * 9) c2) := keep_range h2 (by rw [h1.len, hc.len]) h1.noint
 exact ⟨own_over c2 (m * 9) h.own, (h.row.keep K).set hp (hc.keep K)⟩
theorem rd_own {w : World} {base sz n : Nat} {e : TypeId} {v : Value} {xs : List Value} (h : w.ownsRow base e sz v n xs) : ∃ A cap, v = .slice A n cap := by
 rcases h.2 with ⟨rfl, rfl⟩ | ⟨g, cap, cur, rfl, _⟩
 · exact ⟨none, 0, rfl⟩
 · exact ⟨some ⟨g, 0, none⟩, cap, rfl⟩
set_option maxHeartbeats 1000000 in
theorem rMove_bad (v : Value) (l : List TV) (d : SV) (z : Int) (w : World) (hv : Ts w v l) (hs : tle l 10000000) (hz : chkC l = z) (h0 : z ≠ 0) :
   Calls Tryz.prog 23 #[v, d.val] w fun e w' => e = .returned (.tuple #[.slice none 0 0, .int .i64 z]) ∧ Below w.heap.size w w' := by
 have H := Lib.hid (fun w hv => rCheck_walk v l w hv hs)
 rw [hz] at H
 obtain ⟨A, cap, rfl, hn, hc, hcell⟩ := hv.open
 clear hcell hn hc hs hz
 unfold SV.val
 go_enter Tryz.func23, Tryz.ntmps23
 go_wp2_with fail
 refine (H.out _ (hv.below bel)).mono ?_
 rintro e w1 ⟨rfl, g1⟩
 have B1 := bn (w := w) bel g1
 clear g1
 go_wp2
 go_ret2
 exact ⟨rfl, bel⟩
set_option maxHeartbeats 4000000 in
set_option maxRecDepth 100000 in
theorem rMove_arg (v : Value) (l : List TV) (d : SV) (w : World) (hv : Ts w v l) (hs : tle l 10000000) (hz : chkC l = 0) (hd : d.le 10000000) (h0 : isVec d = false) :
   Calls Tryz.prog 23 #[v, d.val] w fun e w' => e = .returned (.tuple #[.slice none 0 0, .int .i64 1]) ∧ Below w.heap.size w w' := by
 have H := Lib.hid (fun w hv => rCheck_walk v l w hv hs)
 have H2 := Lib.hid (fun w => wFrom_walk d hd w)
 have HSZ : Hid ((Tryz.prog.info? 86).map (·.size) = some 9) := Lib.hid (by kernel_rfl)
 rw [hz] at H
 rw [h0] at H2
 obtain ⟨A, cap, rfl, hn, hc, hcell⟩ := hv.open
 clear hcell hn hc hs hz hd h0
 unfold SV.val at *
 generalize vOf d = D at *
 generalize d.x = x0 at *
 generalize d.y = y0 at *
 generalize d.z = z0 at *
 go_enter Tryz.func23, Tryz.ntmps23
 go_wp2_with fail
 refine (H.out _ (hv.below bel)).mono ?_
 rintro e w1 ⟨rfl, g1⟩
 have hz1 : w.heap.size < w1.heap.size := hzs g1
 have B1 := bn (w := w) bel g1
 have c1_0_0 := bcv g1 w.heap.size 0 (.string x0)
 have f1_0_0 := bfv g1 w.heap.size 0
 have c1_0_1 := bcv g1 w.heap.size 1 (.string y0)
 have f1_0_1 := bfv g1 w.heap.size 1
 have c1_0_2 := bcv g1 w.heap.size 2 (.string z0)
 have f1_0_2 := bfv g1 w.heap.size 2
 clear g1
 go_wp2_with fail
 refine (H2.out _).mono ?_
 rintro e w2 ⟨z, rfl, hz, g2⟩
 have B2 := bn (w := w) bel g2
 clear g2
 obtain ⟨c, rfl, hcv⟩ := vc_of hz
 have HBK : Hid (Bk (w2.alloc (.cells #[.bool false, .slice none 0 0, .slice none 0 0, .bool false, .slice none 0 0, .slice none 0 0, .bool false, .slice none 0 0, .slice none 0 0] 86)) w2.heap.size [.bool false, .slice none 0 0, .slice none 0 0, .bool false, .slice none 0 0, .slice none 0 0, .bool false, .slice none 0 0, .slice none 0 0]) := Lib.hid (bk_at rfl)
 have HTH : Hid ((w2.alloc (.cells #[.bool false, .slice none 0 0, .slice none 0 0, .bool false, .slice none 0 0, .slice none 0 0, .bool false, .slice none 0 0, .slice none 0 0] 86)).there w2.heap.size 0 c.toArray.size) := Lib.hid (fun j hj => by
   have hcs : c.toArray.size = 9 := hcv.len
   rw [Nat.zero_add]
   exact ⟨by rw [HBK.out.cell j _ (List.getElem?_eq_getElem (show j < 9 by omega))]; rfl, HBK.out.free j⟩)
 have HS2 : Hid ((Tryz.prog.info? 86).map (·.size) = some c.toArray.size) := Lib.hid (by
   have hcs : c.toArray.size = 9 := hcv.len
   rw [hcs]
   exact HSZ.out)
 have HON := Lib.hid (all_oneCell_toArray hcv.one)
 have HB3 : Hid (Below w.heap.size w ((w2.alloc (.cells #[.bool false, .slice none 0 0, .slice none 0 0, .bool false, .slice none 0 0, .slice none 0 0, .bool false, .slice none 0 0, .slice none 0 0] 86)).setCells w2.heap.size 0 c)) := Lib.hid (r_below_cells (by have := B2.size; omega) c 0 (ba B2))
 clear hz hcv
 go_wp2_with (refine wpList_store_mid rfl 86 (.tmp 7) (.tmp 20) rfl w2.heap.size 0 c.toArray rfl rfl HTH.out HS2.out HON.out ?_)
 go_ret2
 exact ⟨rfl, HB3.out⟩
theorem vpts_txt (L : List (Tr V3)) : (tpts (L.map txt)).map vOf = tpts L := by
 rw [tpts_txt]
 unfold tvs
 rw [List.map_map]
 have : (vOf ∘ txv) = id := by funext a; exact vOf_txv a
 rw [this, List.map_id]
theorem over_nil (us : List Value) : ∀ (xs : List Value), us.length = xs.length → over xs 0 us = us := fun xs h => by
 have := over_left xs [] us [] 0 rfl (by omega)
 rw [List.nil_append, List.append_nil] at this
 rw [this, List.drop_eq_nil_of_le (by omega)]
 simp
theorem box_put {w2 : World} {c : List Value} {t : TypeId} {q : V3} (hc : VC w2 c q) :
   (w2.alloc (.cells #[.bool false, .slice none 0 0, .slice none 0 0, .bool false, .slice none 0 0, .slice none 0 0, .bool false, .slice none 0 0, .slice none 0 0] t)).there w2.heap.size 0 9 ∧ Bk ((w2.alloc (.cells #[.bool false, .slice none 0 0, .slice none 0 0, .bool false, .slice none 0 0, .slice none 0 0, .bool false, .slice none 0 0, .slice none 0 0] t)).setCells w2.heap.size 0 c) w2.heap.size c ∧ VC ((w2.alloc (.cells #[.bool false, .slice none 0 0, .slice none 0 0, .bool false, .slice none 0 0, .slice none 0 0, .bool false, .slice none 0 0, .slice none 0 0] t)).setCells w2.heap.size 0 c) c q := by
 have hb : Bk (w2.alloc (.cells #[.bool false, .slice none 0 0, .slice none 0 0, .bool false, .slice none 0 0, .slice none 0 0, .bool false, .slice none 0 0, .slice none 0 0] t)) w2.heap.size [.bool false, .slice none 0 0, .slice none 0 0, .bool false, .slice none 0 0, .slice none 0 0, .bool false, .slice none 0 0, .slice none 0 0] := bk_at rfl
 have hl : c.length = 9 := hc.len
 have K := hb.keeps c 0 (by rw [hl]; simp) (by intro k i hm; simp at hm) hc.noint
 refine ⟨fun j hj => ?_, ?_, (hc.below (ba (br _))).keep K⟩
 · rw [Nat.zero_add]
   exact ⟨by rw [hb.cell j _ (List.getElem?_eq_getElem (show j < 9 by omega))]; rfl, hb.free j⟩
 · have := hb.over c 0 (by rw [hl]; simp)
   rwa [over_nil c _ (by rw [hl]; rfl)] at this
set_option maxHeartbeats 8000000 in
set_option maxRecDepth 100000 in
theorem rMove_ok (v : Value) (L : List (Tr V3)) (d : V3) (w : World) (hv : Ts w v (L.map txt)) (hs : ∀ p ∈ tpts L, p.le 400000) (hd : d.le 400000) (hz : chkC (L.map txt) = 0) :
   Calls Tryz.prog 23 #[v, VV d] w (Ret fun r w' => (∃ u, r = .tuple #[u, .int .i64 0] ∧ Ts w' u ((L.map (Tr.map (V3.add · d))).map txt)) ∧ Below w.heap.size w w') := by
 have hle : tle (L.map txt) 10000000 := tle_txt (k := 400000) (fun t ht => ⟨hs _ (List.mem_flatMap.2 ⟨t, ht, by simp [Tr.pts]⟩), hs _ (List.mem_flatMap.2 ⟨t, ht, by simp [Tr.pts]⟩), hs _ (List.mem_flatMap.2 ⟨t, ht, by simp [Tr.pts]⟩)⟩) (by omega)
 have hlen : (L.map txt).length = L.length := List.length_map _
 have hp := (chkC_zero hz).1
 rw [hlen] at hp
 have H := Lib.hid (fun w hv => rCheck_walk v (L.map txt) w hv hle)
 have hdl := txv_le hd
 have H2 := Lib.hid (fun w => wFrom_walk (txv d) ⟨Nat.le_trans hdl.1 (by omega), Nat.le_trans hdl.2.1 (by omega), Nat.le_trans hdl.2.2 (by omega)⟩ w)
 have H3 := Lib.hid (fun w hv => rRead_walk v (L.map txt) w hv hle (by rw [hlen]; omega))
 have H4 := Lib.hid (fun u xs w hv hr => rWrite_walk u (L.map (Tr.map (V3.add · d))) xs w hv hr (fun p hp => by
   rw [tpts_mapF (F := (V3.add · d))] at hp
   obtain ⟨q, hq, rfl⟩ := List.mem_map.1 hp
   exact V3.le_add (hs q hq) hd (by omega)) (by rw [List.length_map]; omega))
 have HPS := Lib.hid (fun (p : V3) (hp : p ∈ tpts L) u v W h g => wPlus_walk u v p d W h g ((hs p hp).mono (by omega)) (hd.mono (by omega)))
 have HSZ : Hid ((Tryz.prog.info? 86).map (·.size) = some 9) := Lib.hid (by kernel_rfl)
 rw [hz] at H
 rw [isVec_txv, vOf_txv, txv_val, VV_eq] at H2
 rw [vpts_txt, hlen] at H3
 have hpl := tpts_length L
 rw [List.length_map, tpts_mapF (F := (V3.add · d))] at H4
 rw [VV_eq]
 obtain ⟨A, cap, rfl, hn, hc, -⟩ := hv.open
 have HV := Lib.hid hv
 rw [hlen] at hn H H3 HV ⊢
 generalize ((L.map (Tr.map (V3.add · d))).map txt) = L2 at *
 generalize tpts L = P at *
 obtain ⟨n, hn0⟩ : ∃ n, n = L.length := ⟨_, rfl⟩
 rw [← hn0] at hn H H3 H4 HV hpl hp ⊢
 clear hn0 hle hlen hdl hs hd hz hv
 generalize rtx d.x = x0 at *
 generalize rtx d.y = y0 at *
 generalize rtx d.z = z0 at *
 go_enter Tryz.func23, Tryz.ntmps23
 go_wp2_with fail
 refine (H.out _ (HV.out.below bel)).mono ?_
 rintro e w1 ⟨rfl, g1⟩
 have hz1 : w.heap.size < w1.heap.size := hzs g1
 have B1 := bn (w := w) bel g1
 have c1_0_0 := bcv g1 w.heap.size 0 (.string x0)
 have f1_0_0 := bfv g1 w.heap.size 0
 have c1_0_1 := bcv g1 w.heap.size 1 (.string y0)
 have f1_0_1 := bfv g1 w.heap.size 1
 have c1_0_2 := bcv g1 w.heap.size 2 (.string z0)
 have f1_0_2 := bfv g1 w.heap.size 2
 clear g1
 go_wp2_with fail
 refine (H2.out _).mono ?_
 rintro e w2 ⟨z, rfl, hz, g2⟩
 have B2 := bn (w := w) bel g2
 clear g2
 obtain ⟨c, rfl, hcv⟩ := vc_of hz
 obtain ⟨hth, hbk, hvc⟩ := box_put (t := 86) hcv
 have hcs : c.toArray.size = 9 := hcv.len
 have HTH := Lib.hid hth
 have HS2 : Hid ((Tryz.prog.info? 86).map (·.size) = some c.toArray.size) := Lib.hid (by rw [hcs]; exact HSZ.out)
 have HON := Lib.hid (all_oneCell_toArray hcv.one)
 have HB3 : Hid (Below w.heap.size w ((w2.alloc (.cells #[.bool false, .slice none 0 0, .slice none 0 0, .bool false, .slice none 0 0, .slice none 0 0, .bool false, .slice none 0 0, .slice none 0 0] 86)).setCells w2.heap.size 0 c)) := Lib.hid (r_below_cells (by have := B2.size; omega) c 0 (ba B2))
 rw [← hcs] at HTH
 have HBK := Lib.hid hbk
 have HVC := Lib.hid hvc
 clear hz hcv hth hbk hvc hcs
 go_wp2_with (refine wpList_store_mid rfl 86 (.tmp 7) (.tmp 20) rfl w2.heap.size 0 c.toArray rfl rfl HTH.out HS2.out HON.out ?_)
 obtain ⟨D, hD⟩ : ∃ D, D = w2.heap.size := ⟨_, rfl⟩
 rw [← hD] at HB3 HBK HVC ⊢
 generalize (w2.alloc (.cells #[.bool false, .slice none 0 0, .slice none 0 0, .bool false, .slice none 0 0, .slice none 0 0, .bool false, .slice none 0 0, .slice none 0 0] 86)).setCells D 0 c = V2 at *
 clear HTH HS2 hD c1_0_0 c1_0_1 c1_0_2 f1_0_0 f1_0_1 f1_0_2 hz1 B1 B2
 refine (H3.out _ (HV.out.below HB3.out)).mono ?_
 rintro e U3 ⟨u, rfl, ⟨xs0, ho, hr⟩, g3⟩
 obtain ⟨Au, capu, rfl⟩ := rd_own ho
 have HOW : Hid (U3.ownsRow V2.heap.size 97 27 (.slice Au n capu) n xs0 ∧ VRow U3 xs0 (mixF (V3.add · d) P 0)) := Lib.hid ⟨ho, by rw [mixF_zero]; exact hr⟩
 have HME : Hid (mixF (V3.add · d) P (n * 3) = P.map (V3.add · d)) := Lib.hid (by rw [← hpl]; exact mixF_end _ P)
 have HPL := Lib.hid hpl
 clear ho hr hpl
 go_wp2
 go_loopw [10] (fun ii wr => ∃ i : Nat, ∃ xs, i ≤ n ∧ ii = .int .i64 i ∧ Hid (wr.ownsRow V2.heap.size 97 27 (.slice Au n capu) n xs ∧ VRow wr xs (mixF (V3.add · d) P (i * 3))) ∧ Below V2.heap.size V2 wr) (fun ii _ => n - (intOf ii).toNat)
 case atStart => exact ⟨0, xs0, Nat.zero_le _, rfl, HOW, g3⟩
 case round =>
   clear HOW
   obtain ⟨i, xs, hi, rfl, hown, hb⟩ := hrel
   by_cases hlt : i < n
   · obtain ⟨g, cap', hE, hg1, -⟩ := World.ownsRow.form hown.out.1 (by omega)
     simp only [Value.slice.injEq] at hE
     obtain ⟨hA, -, -⟩ := hE
     subst hA
     have hi0 : (0 : Int) ≤ (i : Int) := by omega
     have hin : (i : Int) < (n : Int) := by omega
     have HM : Hid (MRow wr V2.heap.size g n capu xs (mixF (V3.add · d) P (i * 3 + 0))) := Lib.hid ⟨hown.out.1, hown.out.2⟩
     clear hown
     go_wp2
     go_loopw [11] (fun jj wx => ∃ j : Nat, ∃ ys, j ≤ 3 ∧ jj = .int .i64 j ∧ Hid (MRow wx V2.heap.size g n capu ys (mixF (V3.add · d) P (i * 3 + j))) ∧ Below V2.heap.size V2 wx) (fun jj _ => 3 - (intOf jj).toNat)
     case atStart => exact ⟨0, xs, by omega, rfl, HM, hb⟩
     case round =>
       clear HM
       obtain ⟨j, ys, hj, rfl, hm, hbx⟩ := hrel
       by_cases hjt : j < 3
       · obtain ⟨p, hp1⟩ : ∃ p, P[i * 3 + j]? = some p := ⟨_, List.getElem?_eq_getElem (by rw [HPL.out]; omega)⟩
         have hq := mixF_get (F := (V3.add · d)) hp1
         obtain ⟨c1, hv1, hr1⟩ := hm.out.cells hq
         have hth := hm.out.there hq
         have e27 : (i * 3 + j) * 9 = i * 27 + j * 9 := by omega
         rw [e27] at hr1 hth
         have HR1 := Lib.hid ((World.rangeAt_drew wr _ _ _).2 hr1)
         have HR2 := Lib.hid ((World.rangeAt_drew wr _ _ _).2 (HBK.out.below hbx).range)
         have HZ1 : Hid ((Tryz.prog.info? 86).map (·.size) = some c1.length) := Lib.hid (by rw [hv1.len]; exact HSZ.out)
         have HZ2 : Hid ((Tryz.prog.info? 86).map (·.size) = some c.length) := Lib.hid (by rw [HVC.out.len]; exact HSZ.out)
         have HV1 := Lib.hid (hv1.vn.below (bd (br _)))
         have HV2 := Lib.hid ((HVC.out.below (bd hbx)).vn)
         have HTH2 := Lib.hid hth
         have HPX := Lib.hid (fun u v W h g => HPS.out p (List.mem_of_getElem? hp1) u v W h g)
         have HPUT : Hid (∀ W c2, Below wr.drew.heap.size wr.drew W → VC W c2 (p.add d) → MRow (W.setCells g (i * 27 + j * 9) c2) V2.heap.size g n capu (over ys (i * 27 + j * 9) c2) (mixF (V3.add · d) P (i * 3 + (j + 1)))) := Lib.hid (fun W c2 hW h2 => by
           have := (hm.out.under (bn (bd (br _)) hW)).put hq h2
           rw [mixF_set hp1, e27, Nat.add_assoc] at this
           exact this)
         have HTT : Hid (∀ W c2, Below wr.drew.heap.size wr.drew W → VC W c2 (p.add d) → W.there g (i * 27 + j * 9) c2.toArray.size ∧ (Tryz.prog.info? 86).map (·.size) = some c2.toArray.size) := Lib.hid (fun W c2 hW h2 => by
           have hcs : c2.toArray.size = 9 := h2.len
           rw [hcs]
           have := (hm.out.under (bn (bd (br _)) hW)).there hq
           rw [e27] at this
           exact ⟨this, HSZ.out⟩)
         have hj0 : (0 : Int) ≤ (j : Int) := by omega
         have hjn : (j : Int) < 3 := by omega
         have HG1 := Lib.hid hg1
         clear hp1 hq hv1 hr1 hth e27 hm
         go_wp2
         refine wp_region_any (by kernel_rfl) ?_
         try (change wpAny _ _ _ _ _ _ _ (World.drew _))
         refine wpAny_take (i := 0) (v := .slice (some ⟨g, 0, none⟩) n capu) rfl (by kernel_rfl) (by kernel_rfl) (by kernel_rfl) (fun _ _ _ h => h) (Or.inl ⟨rfl, fun w' => ?_⟩) ?_
         · go_simp
         try simp only [Act.put, lsx]
         refine wpAny_take (i := 1) (v := .int .i64 i) rfl (by kernel_rfl) (by kernel_rfl) (by kernel_rfl) (fun _ _ _ h => h) (Or.inl ⟨rfl, fun w' => ?_⟩) ?_
         · go_simp
         try simp only [Act.put, lsx]
         refine wpAny_take (i := 2) (v := .int .i64 j) rfl (by kernel_rfl) (by kernel_rfl) (by kernel_rfl) (fun _ _ _ h => h) (Or.inl ⟨rfl, fun w' => ?_⟩) ?_
         · go_simp
         try simp only [Act.put, lsx]
         refine wpAny_take (i := 3) (v := .slice (some ⟨g, 0, none⟩) n capu) rfl (by kernel_rfl) (by kernel_rfl) (by kernel_rfl) (fun _ _ _ h => h) (Or.inl ⟨rfl, fun w' => ?_⟩) ?_
         · go_simp
         try simp only [Act.put, lsx]
         refine wpAny_take (i := 4) (v := .int .i64 i) rfl (by kernel_rfl) (by kernel_rfl) (by kernel_rfl) (fun _ _ _ h => h) (Or.inl ⟨rfl, fun w' => ?_⟩) ?_
         · go_simp
         try simp only [Act.put, lsx]
         refine wpAny_take (i := 5) (v := .int .i64 j) rfl (by kernel_rfl) (by kernel_rfl) (by kernel_rfl) (fun _ _ _ h => h) (Or.inl ⟨rfl, fun w' => ?_⟩) ?_
         · go_simp
         try simp only [Act.put, lsx]
         refine wpAny_take (i := 6) (v := .pointer (some ⟨g, i * 27, none⟩)) rfl (by kernel_rfl) (by kernel_rfl) (by kernel_rfl) (fun _ _ _ h => h) (Or.inl ⟨rfl, fun w' => ?_⟩) ?_
         · go_simp
         try simp only [Act.put, lsx]
         refine wpAny_take (i := 7) (v := .pointer (some ⟨g, i * 27 + j * 9, none⟩)) rfl (by kernel_rfl) (by kernel_rfl) (by kernel_rfl) (fun _ _ _ h => h) (Or.inl ⟨rfl, fun w' => ?_⟩) ?_
         · go_simp
         try simp only [Act.put, lsx]
         refine wpAny_take (i := 11) (v := .pointer (some ⟨g, i * 27, none⟩)) rfl (by kernel_rfl) (by kernel_rfl) (by kernel_rfl) (fun _ _ _ h => h) (Or.inl ⟨rfl, fun w' => ?_⟩) ?_
         · go_simp
         try simp only [Act.put, lsx]
         refine wpAny_ready (rs := [8, 9]) (by kernel_rfl) (by simp) ?_
         refine AllReady.cons rfl (fun K hK => ?_) (AllReady.cons rfl (fun K hK => ?_) AllReady.nil)
         · rw [if_pos (by rfl)]
           refine wp_load_mid 86 (.tmp 43) (by rfl) g (i * 27 + j * 9) (by rfl) c1 _ HR1.out Tryz.underlying86 rfl HZ1.out ?_
           refine hK _ _ ?_
           clear hK K
           try simp only [Act.put, lsx]
           refine wpAny_ready (rs := [9]) (by kernel_rfl) (by simp) ?_
           refine AllReady.cons rfl (fun K hK => ?_) AllReady.nil
           rw [if_pos (by rfl)]
           refine wp_load_mid 86 (.tmp 7) (by rfl) D 0 (by rfl) c _ HR2.out Tryz.underlying86 rfl HZ2.out ?_
           refine hK _ _ ?_
           clear hK K
           try simp only [Act.put, lsx]
           refine wpAny_ready (rs := [10]) (by kernel_rfl) (by simp) ?_
           refine AllReady.cons rfl (fun K hK => ?_) AllReady.nil
           go_wp2_with fail
           refine (HPX.out _ _ _ HV1.out HV2.out).mono ?_
           rintro e w5 ⟨z, rfl, hz, g5⟩
           obtain ⟨c2, hzc, hc2⟩ := vc_of hz
           subst hzc
           obtain ⟨htt, hsz⟩ := HTT.out _ _ g5 hc2
           refine hK _ _ ?_
           clear hK K
           try simp only [Act.put, lsx]
           refine wpAny_take (i := 12) (v := .pointer (some ⟨g, i * 27 + j * 9, none⟩)) rfl (by kernel_rfl) (by kernel_rfl) (by kernel_rfl) (fun _ _ _ h => h) (Or.inl ⟨rfl, fun w' => ?_⟩) ?_
           · go_simp
           try simp only [Act.put, lsx]
           refine wpAny_ready (rs := [13]) (by kernel_rfl) (by simp) ?_
           refine AllReady.cons rfl (fun K hK => ?_) AllReady.nil
           rw [if_pos (by rfl)]
           refine wp_store_mid 86 (.tmp 48) (.tmp 46) (by rfl) g (i * 27 + j * 9) c2.toArray (by rfl) (by rfl) htt hsz (all_oneCell_toArray hc2.one) ?_
           refine hK _ _ ?_
           clear hK K htt hsz
           try simp only [Act.put, lsx]
           refine wpAny_done (by kernel_rfl) ?_ _
           have HPU := Lib.hid (HPUT.out _ _ g5 hc2)
           have HB5 : Hid (Below V2.heap.size V2 (w5.setCells g (i * 27 + j * 9) c2)) := Lib.hid (r_below_cells HG1.out c2 (i * 27 + j * 9) (bn (bd hbx) g5))
           clear hc2 hz g5 HPUT HTT HPX HV1 HV2 HR1 HR2
           go_wp2
           go_roundw
           case rel => exact ⟨j + 1, over ys (i * 27 + j * 9) c2, by omega, by go_num, HPU, HB5.out⟩
           case measure => simp [intOf]; omega
         · rw [if_pos (by rfl)]
           refine wp_load_mid 86 (.tmp 7) (by rfl) D 0 (by rfl) c _ HR2.out Tryz.underlying86 rfl HZ2.out ?_
           refine hK _ _ ?_
           clear hK K
           try simp only [Act.put, lsx]
           refine wpAny_ready (rs := [8]) (by kernel_rfl) (by simp) ?_
           refine AllReady.cons rfl (fun K hK => ?_) AllReady.nil
           rw [if_pos (by rfl)]
           refine wp_load_mid 86 (.tmp 43) (by rfl) g (i * 27 + j * 9) (by rfl) c1 _ HR1.out Tryz.underlying86 rfl HZ1.out ?_
           refine hK _ _ ?_
           clear hK K
           try simp only [Act.put, lsx]
           refine wpAny_ready (rs := [10]) (by kernel_rfl) (by simp) ?_
           refine AllReady.cons rfl (fun K hK => ?_) AllReady.nil
           go_wp2_with fail
           refine (HPX.out _ _ _ HV1.out HV2.out).mono ?_
           rintro e w5 ⟨z, rfl, hz, g5⟩
           obtain ⟨c2, hzc, hc2⟩ := vc_of hz
           subst hzc
           obtain ⟨htt, hsz⟩ := HTT.out _ _ g5 hc2
           refine hK _ _ ?_
           clear hK K
           try simp only [Act.put, lsx]
           refine wpAny_take (i := 12) (v := .pointer (some ⟨g, i * 27 + j * 9, none⟩)) rfl (by kernel_rfl) (by kernel_rfl) (by kernel_rfl) (fun _ _ _ h => h) (Or.inl ⟨rfl, fun w' => ?_⟩) ?_
           · go_simp
           try simp only [Act.put, lsx]
           refine wpAny_ready (rs := [13]) (by kernel_rfl) (by simp) ?_
           refine AllReady.cons rfl (fun K hK => ?_) AllReady.nil
           rw [if_pos (by rfl)]
           refine wp_store_mid 86 (.tmp 48) (.tmp 46) (by rfl) g (i * 27 + j * 9) c2.toArray (by rfl) (by rfl) htt hsz (all_oneCell_toArray hc2.one) ?_
           refine hK _ _ ?_
           clear hK K htt hsz
           try simp only [Act.put, lsx]
           refine wpAny_done (by kernel_rfl) ?_ _
           have HPU := Lib.hid (HPUT.out _ _ g5 hc2)
           have HB5 : Hid (Below V2.heap.size V2 (w5.setCells g (i * 27 + j * 9) c2)) := Lib.hid (r_below_cells HG1.out c2 (i * 27 + j * 9) (bn (bd hbx) g5))
           clear hc2 hz g5 HPUT HTT HPX HV1 HV2 HR1 HR2
           go_wp2
           go_roundw
           case rel => exact ⟨j + 1, over ys (i * 27 + j * 9) c2, by omega, by go_num, HPU, HB5.out⟩
           case measure => simp [intOf]; omega
       · obtain rfl : j = 3 := by omega
         have HM3 : Hid (wr.ownsRow V2.heap.size 97 27 (.slice (some ⟨g, 0, none⟩) n capu) n ys ∧ VRow wr ys (mixF (V3.add · d) P ((i + 1) * 3))) := Lib.hid (by
           refine ⟨hm.out.own, ?_⟩
           rw [show (i + 1) * 3 = i * 3 + 3 by omega]
           exact hm.out.row)
         go_wp2
         go_roundw
         case rel => exact ⟨i + 1, ys, by omega, by go_num, HM3, hbx⟩
         case measure => simp [intOf]; omega
   · obtain rfl : i = n := by omega
     have HOE := Lib.hid (Rd.own hown.out.1)
     have HRE : Hid (VRow wr xs (P.map (V3.add · d))) := Lib.hid (by rw [← HME.out]; exact hown.out.2)
     have hbe : Below w.heap.size w wr := bn HB3.out hb
     clear hown
     go_wp2_with fail
     refine (H4.out _ _ _ HOE.out HRE.out).mono ?_
     rintro e w6 ⟨u, rfl, hu, g6⟩
     obtain ⟨A6, cap6, rfl, -, -, -⟩ := hu.open
     have HU := Lib.hid hu
     have HB6 := Lib.hid (bn hbe g6)
     clear hu g6
     go_wp2
     go_ret2
     exact ⟨_, rfl, ⟨_, rfl, HU.out⟩, HB6.out⟩
end Go.Proofs.YtbnbaokamccmjaaGreatDoor

/- garboardref12: Mirror. -/
namespace Go.Proofs.YtbnbaokamccmjaaGreatDoor
open Go Go.RowKit
theorem vc_parts {w : World} {c : List Value} {p : V3} (h : VC w c p) : ∃ A1 a1 B1 b1 A2 a2 B2 b2 A3 a3 B3 b3, c = [.bool (decide (p.x.num < 0)), .slice A1 (wds p.x.num.natAbs).length a1, .slice B1 (wds p.x.den).length b1, .bool (decide (p.y.num < 0)), .slice A2 (wds p.y.num.natAbs).length a2, .slice B2 (wds p.y.den).length b2, .bool (decide (p.z.num < 0)), .slice A3 (wds p.z.num.natAbs).length a3, .slice B3 (wds p.z.den).length b3] ∧ Qn w (.agg #[.bool (decide (p.x.num < 0)), .slice A1 (wds p.x.num.natAbs).length a1, .slice B1 (wds p.x.den).length b1]) p.x ∧ Qn w (.agg #[.bool (decide (p.y.num < 0)), .slice A2 (wds p.y.num.natAbs).length a2, .slice B2 (wds p.y.den).length b2]) p.y ∧ Qn w (.agg #[.bool (decide (p.z.num < 0)), .slice A3 (wds p.z.num.natAbs).length a3, .slice B3 (wds p.z.den).length b3]) p.z := by
 obtain ⟨A1, a1, B1, b1, A2, a2, B2, b2, A3, a3, B3, b3, hz, q1, q2, q3⟩ := h.vn.open
 injection hz with hz
 exact ⟨A1, a1, B1, b1, A2, a2, B2, b2, A3, a3, B3, b3, by have := congrArg Array.toList hz; simpa using this, q1, q2, q3⟩
theorem over_mid (a b : List Value) (x0 x1 x2 y0 y1 y2 z0 z1 z2 u0 u1 u2 : Value) {o : Nat} (ha : a.length = o) : over (a ++ [x0, x1, x2, y0, y1, y2, z0, z1, z2] ++ b) (o + 3) [u0, u1, u2] = over (a ++ [x0, x1, x2, y0, y1, y2, z0, z1, z2] ++ b) o [x0, x1, x2, u0, u1, u2, z0, z1, z2] := by
 have h1 := over_left [x0, x1, x2, y0, y1, y2, z0, z1, z2] b [x0, x1, x2, u0, u1, u2, z0, z1, z2] a o ha (Nat.le_refl _)
 have h2 := over_left [y0, y1, y2, z0, z1, z2] b [u0, u1, u2] (a ++ [x0, x1, x2]) (o + 3) (by rw [List.length_append, ha]; rfl) (by simp)
 rw [h1]
 have e : a ++ [x0, x1, x2, y0, y1, y2, z0, z1, z2] ++ b = a ++ [x0, x1, x2] ++ [y0, y1, y2, z0, z1, z2] ++ b := by simp
 rw [e, h2]
 simp
theorem MRow.mid {w : World} {B g n cap m : Nat} {xs : List Value} {P : List V3} {p : V3} (h : MRow w B g n cap xs P) (hp : P[m]? = some p) : ∃ A2 a2 B2 b2, w.rangeAt g (m * 9 + 3) [.bool (decide (p.y.num < 0)), .slice A2 (wds p.y.num.natAbs).length a2, .slice B2 (wds p.y.den).length b2] ∧ Qn w (.agg #[.bool (decide (p.y.num < 0)), .slice A2 (wds p.y.num.natAbs).length a2, .slice B2 (wds p.y.den).length b2]) p.y ∧
   ∀ W q A' a' D' e', Below w.heap.size w W → Qn W (.agg #[.bool (decide (q.num < 0)), .slice A' (wds q.num.natAbs).length a', .slice D' (wds q.den).length e']) q → W.there g (m * 9 + 3) 3 ∧ MRow (W.setCells g (m * 9 + 3) [.bool (decide (q.num < 0)), .slice A' (wds q.num.natAbs).length a', .slice D' (wds q.den).length e']) B g n cap (over xs (m * 9 + 3) [.bool (decide (q.num < 0)), .slice A' (wds q.num.natAbs).length a', .slice D' (wds q.den).length e']) (P.set m ⟨p.x, q, p.z⟩) := by
 obtain ⟨a, c, b, hx, h1, h2, h3⟩ := h.row.split hp
 obtain ⟨A1, a1, B1, b1, A2, a2, B2, b2, A3, a3, B3, b3, hc, q1, q2, q3⟩ := vc_parts h2
 have hm : m < P.length := (List.getElem?_eq_some_iff.1 hp).1
 rw [h.len] at hm
 have ha : a.length = m * 9 := by rw [h1.len, List.length_take, h.len]; congr 1; omega
 have hr : ∀ W : World, W.ownsRow B 97 27 (.slice (some ⟨g, 0, none⟩) n cap) n xs → W.rangeAt g (m * 9 + 3) [.bool (decide (p.y.num < 0)), .slice A2 (wds p.y.num.natAbs).length a2, .slice B2 (wds p.y.den).length b2] := fun W ho i u hu => by
   have hi : i < 3 := (List.getElem?_eq_some_iff.1 hu).1
   rw [ho.cellAt _ (by omega), hx, hc, List.append_assoc, List.getElem?_append_right (by omega), ha, show m * 9 + 3 + i - m * 9 = 3 + i by omega]
   rcases (show i = 0 ∨ i = 1 ∨ i = 2 by omega) with rfl | rfl | rfl <;> exact hu
 refine ⟨A2, a2, B2, b2, hr w h.own, q2, fun W q A' a' D' e' hW hq => ?_⟩
 have hrW := hr W (own_below h.own hW)
 refine ⟨fun j hj => ⟨by rw [hrW j _ (List.getElem?_eq_getElem (show j < 3 from hj))]; rfl, (own_below h.own hW).frozenAt _⟩, ?_⟩
 have K : Keep W (W.setCells g (m * 9 + 3) [.bool (decide (q.num < 0)), .slice A' (wds q.num.natAbs).length a', .slice D' (wds q.den).length e']) := keep_range hrW rfl (by intro k i hm; simp at hm)
 have hcq : VC (W.setCells g (m * 9 + 3) [.bool (decide (q.num < 0)), .slice A' (wds q.num.natAbs).length a', .slice D' (wds q.den).length e']) [.bool (decide (p.x.num < 0)), .slice A1 (wds p.x.num.natAbs).length a1, .slice B1 (wds p.x.den).length b1, .bool (decide (q.num < 0)), .slice A' (wds q.num.natAbs).length a', .slice D' (wds q.den).length e', .bool (decide (p.z.num < 0)), .slice A3 (wds p.z.num.natAbs).length a3, .slice B3 (wds p.z.den).length b3] ⟨p.x, q, p.z⟩ := ⟨_, _, _, _, _, _, _, _, _, _, _, _, rfl, vn_mk ((q1.below hW).keep K) (hq.keep K) ((q3.below hW).keep K)⟩
 refine ⟨own_over _ (m * 9 + 3) (own_below h.own hW), ?_⟩
 have := ((h.row.under hW).keep K).set hp hcq
 rw [hx, hc] at this ⊢
 rw [over_mid a b _ _ _ _ _ _ _ _ _ _ _ _ ha]
 exact this
set_option maxHeartbeats 1000000 in
theorem rMirror_bad (v : Value) (l : List TV) (z : Int) (w : World) (hv : Ts w v l) (hs : tle l 10000000) (hz : chkC l = z) (h0 : z ≠ 0) :
   Calls Tryz.prog 27 #[v] w fun e w' => e = .returned (.tuple #[.slice none 0 0, .int .i64 z]) ∧ Below w.heap.size w w' := by
 have H := Lib.hid (fun w hv => rCheck_walk v l w hv hs)
 rw [hz] at H
 obtain ⟨A, cap, rfl, hn, hc, hcell⟩ := hv.open
 clear hcell hn hc hs hz
 go_enter Tryz.func27, Tryz.ntmps27
 go_wp2_with fail
 refine (H.out _ (hv.below bel)).mono ?_
 rintro e w1 ⟨rfl, g1⟩
 have B1 := bn (w := w) bel g1
 clear g1
 go_wp2
 go_ret2
 exact ⟨rfl, bel⟩
theorem flip_rle {p : V3} {k : Nat} (h : p.le k) : p.flip.le k := ⟨h.1, by have := rz_neg p.y; exact Nat.le_trans (Nat.le_of_eq this) h.2.1, h.2.2⟩
set_option maxHeartbeats 8000000 in
set_option maxRecDepth 100000 in
theorem rMirror_ok (v : Value) (L : List (Tr V3)) (w : World) (hv : Ts w v (L.map txt)) (hs : ∀ p ∈ tpts L, p.le 400000) (hz : chkC (L.map txt) = 0) :
   Calls Tryz.prog 27 #[v] w (Ret fun r w' => (∃ u, r = .tuple #[u, .int .i64 0] ∧ Ts w' u ((L.map (fun t => (t.map V3.flip).turn)).map txt)) ∧ Below w.heap.size w w') := by
 have hmem : ∀ t ∈ L, t.a.le 400000 ∧ t.b.le 400000 ∧ t.c.le 400000 := fun t ht => ⟨hs _ (List.mem_flatMap.2 ⟨t, ht, by simp [Tr.pts]⟩), hs _ (List.mem_flatMap.2 ⟨t, ht, by simp [Tr.pts]⟩), hs _ (List.mem_flatMap.2 ⟨t, ht, by simp [Tr.pts]⟩)⟩
 have hle : tle (L.map txt) 10000000 := tle_txt hmem (by omega)
 obtain ⟨L1, hL1⟩ : ∃ L1, L1 = L.map Tr.turn := ⟨_, rfl⟩
 have hmem1 : ∀ t ∈ L1, t.a.le 400000 ∧ t.b.le 400000 ∧ t.c.le 400000 := fun t ht => by
   rw [hL1] at ht
   obtain ⟨s, hs, rfl⟩ := List.mem_map.1 ht
   obtain ⟨h1, h2, h3⟩ := hmem s hs
   exact ⟨h1, h3, h2⟩
 have hs1 := mem_tpts hmem1
 have hle1 : tle (L1.map txt) 10000000 := tle_txt hmem1 (by omega)
 have hlen : (L.map txt).length = L.length := List.length_map _
 have hlen1 : (L1.map txt).length = L.length := by rw [List.length_map, hL1, List.length_map]
 have hlen2 : L1.length = L.length := by rw [hL1, List.length_map]
 have hp := (chkC_zero hz).1
 rw [hlen] at hp
 have H := Lib.hid (fun w hv => rCheck_walk v (L.map txt) w hv hle)
 have H2 := Lib.hid (fun w hv => rturned_walk v (L.map txt) w hv (by rw [hlen]; omega))
 have H3 := Lib.hid (fun u w hv => rRead_walk u (L1.map txt) w hv hle1 (by rw [hlen1]; omega))
 have H4 := Lib.hid (fun u xs w hv hr => rWrite_walk u (L1.map (Tr.map V3.flip)) xs w hv hr (fun p hp => by
   rw [tpts_mapF (F := V3.flip)] at hp
   obtain ⟨q, hq, rfl⟩ := List.mem_map.1 hp
   exact (flip_rle (hs1 q hq)).mono (by omega)) (by rw [List.length_map]; omega))
 have HSZ : Hid ((Tryz.prog.info? 84).map (·.size) = some 3) := Lib.hid (by kernel_rfl)
 skip
 rw [hz] at H
 rw [vpts_txt, hlen1] at H3
 have hpl := tpts_length L1
 rw [turn_txt, ← hL1, hlen] at H2
 have hfin : (L.map (fun t => (t.map V3.flip).turn)).map txt = (L1.map (Tr.map V3.flip)).map txt := by rw [hL1, List.map_map, List.map_map, List.map_map]; rfl
 rw [List.length_map, tpts_mapF (F := V3.flip), hlen2] at H4
 rw [hlen2] at hpl
 rw [hfin]
 obtain ⟨A, cap, rfl, hn, hc, -⟩ := hv.open
 have HV := Lib.hid hv
 rw [hlen] at hn H H2 HV ⊢
 have HTO : Hid (∀ (W : World) w u, W.ownsRow w 43 9 u L.length (tcs (L1.map txt)) → Ts W u (L1.map txt)) := Lib.hid (fun W w u h => Ts.own (base := w) (e := 43) (by rw [hlen1]; exact h))
 generalize ((L1.map (Tr.map V3.flip)).map txt) = L2 at *
 generalize tpts L1 = P at *
 obtain ⟨n, hn0⟩ : ∃ n, n = L.length := ⟨_, rfl⟩
 rw [← hn0] at hn H H2 H3 H4 HV hpl hp HTO ⊢
 clear hn0 hle hlen hs hz hv hmem hmem1 hs1 hle1 hlen1 hlen2 hfin
 go_enter Tryz.func27, Tryz.ntmps27
 go_wp2_with fail
 refine (H.out _ (HV.out.below bel)).mono ?_
 rintro e w1 ⟨rfl, g1⟩
 have B1 := bn (w := w) bel g1
 clear g1
 go_wp2_with fail
 refine (H2.out _ (HV.out.below B1)).mono ?_
 rintro e V2 ⟨u1, rfl, hu1, g2⟩
 have B2 : Below w.heap.size w V2 := bn B1 g2
 clear g2
 have hu2 := HTO.out _ _ _ hu1
 go_wp2_with fail
 refine (H3.out _ _ hu2).mono ?_
 rintro e U3 ⟨u, rfl, ⟨xs0, ho, hr⟩, g3⟩
 obtain ⟨Au, capu, rfl⟩ := rd_own ho
 have HOW : Hid (U3.ownsRow V2.heap.size 97 27 (.slice Au n capu) n xs0 ∧ VRow U3 xs0 (mixF V3.flip P 0)) := Lib.hid ⟨ho, by rw [mixF_zero]; exact hr⟩
 have HME : Hid (mixF V3.flip P (n * 3) = P.map V3.flip) := Lib.hid (by rw [← hpl]; exact mixF_end _ P)
 have HPL := Lib.hid hpl
 have HB3 := Lib.hid B2
 clear ho hr hpl hu1 hu2 B1 B2
 go_wp2
 go_loopw [6] (fun ii wr => ∃ i : Nat, ∃ xs, i ≤ n ∧ ii = .int .i64 i ∧ Hid (wr.ownsRow V2.heap.size 97 27 (.slice Au n capu) n xs ∧ VRow wr xs (mixF V3.flip P (i * 3))) ∧ Below V2.heap.size V2 wr) (fun ii _ => n - (intOf ii).toNat)
 case atStart => exact ⟨0, xs0, Nat.zero_le _, rfl, HOW, g3⟩
 case round =>
   clear HOW
   obtain ⟨i, xs, hi, rfl, hown, hb⟩ := hrel
   by_cases hlt : i < n
   · obtain ⟨g, cap', hE, hg1, -⟩ := World.ownsRow.form hown.out.1 (by omega)
     simp only [Value.slice.injEq] at hE
     obtain ⟨hA, -, -⟩ := hE
     subst hA
     have hi0 : (0 : Int) ≤ (i : Int) := by omega
     have hin : (i : Int) < (n : Int) := by omega
     have HM : Hid (MRow wr V2.heap.size g n capu xs (mixF V3.flip P (i * 3 + 0))) := Lib.hid ⟨hown.out.1, hown.out.2⟩
     clear hown
     go_wp2
     go_loopw [7] (fun jj wx => ∃ j : Nat, ∃ ys, j ≤ 3 ∧ jj = .int .i64 j ∧ Hid (MRow wx V2.heap.size g n capu ys (mixF V3.flip P (i * 3 + j))) ∧ Below V2.heap.size V2 wx) (fun jj _ => 3 - (intOf jj).toNat)
     case atStart => exact ⟨0, xs, by omega, rfl, HM, hb⟩
     case round =>
       clear HM
       obtain ⟨j, ys, hj, rfl, hm, hbx⟩ := hrel
       by_cases hjt : j < 3
       · obtain ⟨p, hp1⟩ : ∃ p, P[i * 3 + j]? = some p := ⟨_, List.getElem?_eq_getElem (by rw [HPL.out]; omega)⟩
         have hq := mixF_get (F := V3.flip) hp1
         obtain ⟨A2, a2, B2, b2, hr1, hqy, hput⟩ := hm.out.mid hq
         have e27 : (i * 3 + j) * 9 = i * 27 + j * 9 := by omega
         rw [e27] at hr1 hput
         have HR1 := Lib.hid ((World.rangeAt_drew wr _ _ _).2 hr1)
         have HV1 := Lib.hid (hqy.below (bd (br _)))
         have HPUT : Hid (∀ W A' a' D' e', Below wr.drew.heap.size wr.drew W → Qn W (.agg #[.bool (decide ((-p.y).num < 0)), .slice A' (wds (-p.y).num.natAbs).length a', .slice D' (wds (-p.y).den).length e']) (-p.y) → W.there g (i * 27 + j * 9 + 3) 3 ∧ MRow (W.setCells g (i * 27 + j * 9 + 3) [.bool (decide ((-p.y).num < 0)), .slice A' (wds (-p.y).num.natAbs).length a', .slice D' (wds (-p.y).den).length e']) V2.heap.size g n capu (over ys (i * 27 + j * 9 + 3) [.bool (decide ((-p.y).num < 0)), .slice A' (wds (-p.y).num.natAbs).length a', .slice D' (wds (-p.y).den).length e']) (mixF V3.flip P (i * 3 + (j + 1)))) := Lib.hid (fun W A' a' D' e' hW h2 => by
           have := hput W (-p.y) A' a' D' e' (bn (bd (br _)) hW) h2
           rw [show (⟨p.x, -p.y, p.z⟩ : V3) = V3.flip p from rfl, mixF_set hp1, Nat.add_assoc] at this
           exact this)
         have HNG := Lib.hid (fun u W h => qNeg_walk u p.y W h)
         have hj0 : (0 : Int) ≤ (j : Int) := by omega
         have hjn : (j : Int) < 3 := by omega
         have HG1 := Lib.hid hg1
         clear hp1 hq hr1 hqy hput e27 hm
         generalize -p.y = ny at *
         generalize p.y = py at *
         go_wp2
         refine wp_region_any (by kernel_rfl) ?_
         try (change wpAny _ _ _ _ _ _ _ (World.drew _))
         refine wpAny_take (i := 0) (v := .slice (some ⟨g, 0, none⟩) n capu) rfl (by kernel_rfl) (by kernel_rfl) (by kernel_rfl) (fun _ _ _ h => h) (Or.inl ⟨rfl, fun w' => ?_⟩) ?_
         · go_simp
         try simp only [Act.put, lsx]
         refine wpAny_take (i := 1) (v := .int .i64 i) rfl (by kernel_rfl) (by kernel_rfl) (by kernel_rfl) (fun _ _ _ h => h) (Or.inl ⟨rfl, fun w' => ?_⟩) ?_
         · go_simp
         try simp only [Act.put, lsx]
         refine wpAny_take (i := 2) (v := .int .i64 j) rfl (by kernel_rfl) (by kernel_rfl) (by kernel_rfl) (fun _ _ _ h => h) (Or.inl ⟨rfl, fun w' => ?_⟩) ?_
         · go_simp
         try simp only [Act.put, lsx]
         refine wpAny_take (i := 3) (v := .slice (some ⟨g, 0, none⟩) n capu) rfl (by kernel_rfl) (by kernel_rfl) (by kernel_rfl) (fun _ _ _ h => h) (Or.inl ⟨rfl, fun w' => ?_⟩) ?_
         · go_simp
         try simp only [Act.put, lsx]
         refine wpAny_take (i := 4) (v := .int .i64 i) rfl (by kernel_rfl) (by kernel_rfl) (by kernel_rfl) (fun _ _ _ h => h) (Or.inl ⟨rfl, fun w' => ?_⟩) ?_
         · go_simp
         try simp only [Act.put, lsx]
         refine wpAny_take (i := 5) (v := .int .i64 j) rfl (by kernel_rfl) (by kernel_rfl) (by kernel_rfl) (fun _ _ _ h => h) (Or.inl ⟨rfl, fun w' => ?_⟩) ?_
         · go_simp
         try simp only [Act.put, lsx]
         refine wpAny_take (i := 6) (v := .pointer (some ⟨g, i * 27, none⟩)) rfl (by kernel_rfl) (by kernel_rfl) (by kernel_rfl) (fun _ _ _ h => h) (Or.inl ⟨rfl, fun w' => ?_⟩) ?_
         · go_simp
         try simp only [Act.put, lsx]
         refine wpAny_take (i := 7) (v := .pointer (some ⟨g, i * 27 + j * 9, none⟩)) rfl (by kernel_rfl) (by kernel_rfl) (by kernel_rfl) (fun _ _ _ h => h) (Or.inl ⟨rfl, fun w' => ?_⟩) ?_
         · go_simp
         try simp only [Act.put, lsx]
         refine wpAny_take (i := 8) (v := .pointer (some ⟨g, i * 27 + j * 9 + 3, none⟩)) rfl (by kernel_rfl) (by kernel_rfl) (by kernel_rfl) (fun _ _ _ h => h) (Or.inl ⟨rfl, fun w' => ?_⟩) ?_
         · go_simp
         try simp only [Act.put, lsx]
         refine wpAny_take (i := 11) (v := .pointer (some ⟨g, i * 27, none⟩)) rfl (by kernel_rfl) (by kernel_rfl) (by kernel_rfl) (fun _ _ _ h => h) (Or.inl ⟨rfl, fun w' => ?_⟩) ?_
         · go_simp
         try simp only [Act.put, lsx]
         refine wpAny_ready (rs := [9]) (by kernel_rfl) (by simp) ?_
         refine AllReady.cons rfl (fun K hK => ?_) AllReady.nil
         rw [if_pos (by rfl)]
         refine wp_load_mid 84 (.tmp 34) (by rfl) g (i * 27 + j * 9 + 3) (by rfl) [.bool (decide (py.num < 0)), .slice A2 (wds py.num.natAbs).length a2, .slice B2 (wds py.den).length b2] _ HR1.out Tryz.underlying84 rfl HSZ.out ?_
         refine hK _ _ ?_
         clear hK K
         try simp only [Act.put, lsx]
         refine wpAny_ready (rs := [10]) (by kernel_rfl) (by simp) ?_
         refine AllReady.cons rfl (fun K hK => ?_) AllReady.nil
         go_wp2_with fail
         refine (HNG.out _ _ HV1.out).mono ?_
         rintro e w5 ⟨z, rfl, hz, g5⟩
         obtain ⟨A', a', D', e', hzc, -⟩ := hz.open
         subst hzc
         obtain ⟨htt, hpu⟩ := HPUT.out _ _ _ _ _ g5 hz
         have HPU := Lib.hid hpu
         refine hK _ _ ?_
         clear hK K hpu
         try simp only [Act.put, lsx]
         refine wpAny_take (i := 12) (v := .pointer (some ⟨g, i * 27 + j * 9, none⟩)) rfl (by kernel_rfl) (by kernel_rfl) (by kernel_rfl) (fun _ _ _ h => h) (Or.inl ⟨rfl, fun w' => ?_⟩) ?_
         · go_simp
         try simp only [Act.put, lsx]
         refine wpAny_take (i := 13) (v := .pointer (some ⟨g, i * 27 + j * 9 + 3, none⟩)) rfl (by kernel_rfl) (by kernel_rfl) (by kernel_rfl) (fun _ _ _ h => h) (Or.inl ⟨rfl, fun w' => ?_⟩) ?_
         · go_simp
         try simp only [Act.put, lsx]
         refine wpAny_ready (rs := [14]) (by kernel_rfl) (by simp) ?_
         refine AllReady.cons rfl (fun K hK => ?_) AllReady.nil
         rw [if_pos (by rfl)]
         refine wp_store_mid 84 (.tmp 39) (.tmp 36) (by rfl) g (i * 27 + j * 9 + 3) #[.bool (decide (ny.num < 0)), .slice A' (wds ny.num.natAbs).length a', .slice D' (wds ny.den).length e'] (by rfl) (by rfl) htt HSZ.out (by simp [Value.oneCell']) ?_
         refine hK _ _ ?_
         clear hK K htt
         try simp only [Act.put, lsx]
         refine wpAny_done (by kernel_rfl) ?_ _
         have HB5 : Hid (Below V2.heap.size V2 (w5.setCells g (i * 27 + j * 9 + 3) [.bool (decide (ny.num < 0)), .slice A' (wds ny.num.natAbs).length a', .slice D' (wds ny.den).length e'])) := Lib.hid (r_below_cells HG1.out _ (i * 27 + j * 9 + 3) (bn (bd hbx) g5))
         clear hz g5 HPUT HNG HV1 HR1
         go_wp2
         go_roundw
         case rel => exact ⟨j + 1, _, by omega, by go_num, HPU, HB5.out⟩
         case measure => simp [intOf]; omega
       · obtain rfl : j = 3 := by omega
         have HM3 : Hid (wr.ownsRow V2.heap.size 97 27 (.slice (some ⟨g, 0, none⟩) n capu) n ys ∧ VRow wr ys (mixF V3.flip P ((i + 1) * 3))) := Lib.hid (by
           refine ⟨hm.out.own, ?_⟩
           rw [show (i + 1) * 3 = i * 3 + 3 by omega]
           exact hm.out.row)
         go_wp2
         go_roundw
         case rel => exact ⟨i + 1, ys, by omega, by go_num, HM3, hbx⟩
         case measure => simp [intOf]; omega
   · obtain rfl : i = n := by omega
     have HOE := Lib.hid (Rd.own hown.out.1)
     have HRE : Hid (VRow wr xs (P.map V3.flip)) := Lib.hid (by rw [← HME.out]; exact hown.out.2)
     have hbe : Below w.heap.size w wr := bn HB3.out hb
     clear hown
     go_wp2_with fail
     refine (H4.out _ _ _ HOE.out HRE.out).mono ?_
     rintro e w6 ⟨u, rfl, hu, g6⟩
     obtain ⟨A6, cap6, rfl, -, -, -⟩ := hu.open
     have HU := Lib.hid hu
     have HB6 := Lib.hid (bn hbe g6)
     clear hu g6
     go_wp2
     go_ret2
     exact ⟨_, rfl, ⟨_, rfl, HU.out⟩, HB6.out⟩
end Go.Proofs.YtbnbaokamccmjaaGreatDoor
