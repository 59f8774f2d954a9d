/- rational: Valid, both. -/
import Derived.Carry
import Derived.ChangeMaps4
import Derived.Test.YtbnbaokamccmjaaGreatDoorQa4
set_option linter.unusedVariables false
set_option linter.unusedSimpArgs false
namespace Go.Proofs.YtbnbaokamccmjaaGreatDoor
open Go Go.RowKit

theorem itoa_length (z : Int) : (Lib.itoa z).length ≤ dg z.natAbs + 1 := by
  have := itx_size z
  rwa [← toList_length, itx_toList] at this
theorem decDigits_length (n : Nat) : (Lib.decDigits n).length = dg n := by rw [← dec_toList, toList_length]; rfl
theorem rtx_size (q : Rat) : (rtx q).size ≤ 2 * rz q + 2 := by
  rw [← toList_length, rtx_toList]
  have h1 := itoa_length q.num
  have h2 := decDigits_length q.den
  have h3 := rz_num q
  have h4 := rz_den q
  unfold rtoa
  split
  · omega
  · rw [List.length_append, List.length_cons]; omega
/-- A number is not larger than its text. -/
theorem rz_le_size (q : Rat) : rz q ≤ (rtx q).size := by
  rw [← toList_length, rtx_toList]
  have h1 := dg_sgn q.num
  rw [← toList_length, itx_toList] at h1
  have h2 := decDigits_length q.den
  unfold rz rtoa
  split
  · rename_i h
    rw [h, dg_one]
    have := dg_pos q.num.natAbs
    omega
  · rw [List.length_append, List.length_cons]; omega

theorem rread_rtx (q : Rat) (hq : rz q ≤ 10000000) (w : World) (hB : Bw w) :
    Calls Tryz.prog 113 #[.string (rtx q)] w fun e w' => e = .returned (.tuple #[FV q, .bool true]) ∧ Below w.heap.size w w' := by
  refine (rread_any (rtx q) (by have := rtx_size q; omega) w hB).mono ?_
  rintro e w' ⟨⟨p, d, rfl, h⟩, hb⟩
  rw [isRat_rtx] at h ⊢
  refine ⟨?_, hb⟩
  rw [h rfl, rtx_toList, ratOfL_rtoa]
theorem rread_some (s : ByteArray) (hs : s.size ≤ 40000000) (w : World) (hB : Bw w) :
    Calls Tryz.prog 113 #[.string s] w (Ret fun v w' => (∃ p d, v = .tuple #[.agg #[.string p, .string d], .bool (isRat s)]) ∧ Below w.heap.size w w') := by
  refine (rread_any s hs w hB).mono ?_
  rintro e w' ⟨⟨p, d, rfl, h⟩, hb⟩
  exact ⟨_, rfl, ⟨_, _, rfl⟩, hb⟩

set_option maxHeartbeats 1000000 in
theorem rValid_walk (s : ByteArray) (hs : s.size ≤ 40000000) (w : World) (hB : Bw w) :
    Calls Tryz.prog 78 #[.string s] w fun e w' => e = .returned (.bool (isRat s)) ∧ Below w.heap.size w w' := by
  have H := Lib.hid (fun w hB => rread_some s hs w hB)
  clear hs
  generalize isRat s = r at *
  go_enter Tryz.func78, Tryz.ntmps78
  go_wp2_with fail
  refine (H.out _ (hB.below (by repeat (first | exact br _ | assumption | refine ba ?_ | refine bd ?_ | refine below_drewN ?_ _ | refine bs ?_ (by (try simp) <;> omega))))).mono ?_
  rintro e w1 ⟨_, rfl, ⟨p, d, rfl⟩, g1⟩
  have B1 : Below w.heap.size w w1 := bn (by repeat (first | exact br _ | assumption | refine ba ?_ | refine bd ?_ | refine below_drewN ?_ _ | refine bs ?_ (by (try simp) <;> omega))) g1
  clear g1
  go_wp2
  go_ret
  exact ⟨rfl, (by repeat (first | exact br _ | assumption | refine ba ?_ | refine bd ?_ | refine below_drewN ?_ _ | refine bs ?_ (by (try simp) <;> omega)))⟩

set_option maxHeartbeats 1000000 in
theorem rboth_walk (x y : Rat) (hx : rz x ≤ 10000000) (hy : rz y ≤ 10000000) (w : World) (hB : Bw w) :
    Calls Tryz.prog 92 #[.string (rtx x), .string (rtx y)] w fun e w' => e = .returned (.tuple #[FV x, FV y, .int .i64 0]) ∧ Below w.heap.size w w' := by
  have H1 := Lib.hid (fun w hB => rread_rtx x hx w hB)
  have H2 := Lib.hid (fun w hB => rread_rtx y hy w hB)
  clear hx hy
  generalize rtx x = s at *
  generalize rtx y = t at *
  obtain ⟨b1, d1, e1⟩ := FV_shape x
  obtain ⟨b2, d2, e2⟩ := FV_shape y
  rw [e1] at H1 ⊢
  rw [e2] at H2 ⊢
  clear e1 e2
  go_enter Tryz.func92, Tryz.ntmps92
  go_wp2_with fail
  refine (H1.out _ (hB.below (by repeat (first | exact br _ | assumption | refine ba ?_ | refine bd ?_ | refine below_drewN ?_ _ | refine bs ?_ (by (try simp) <;> omega))))).mono ?_
  rintro e w1 ⟨rfl, g1⟩
  have hz1 : w.heap.size + 1 < w1.heap.size := by have := g1.size; (try simp at this); omega
  have hz1_0 : w.heap.size < w1.heap.size := by omega
  have B1 : Below w.heap.size w w1 := bn (by repeat (first | exact br _ | assumption | refine ba ?_ | refine bd ?_ | refine below_drewN ?_ _ | refine bs ?_ (by (try simp) <;> omega))) g1
  have c1_0_0 : w1.cell? ⟨w.heap.size, 0, none⟩ = some (.string ⟨#[]⟩) := bc g1 (by first | with_reducible assumption | go_simp)
  have f1_0_0 : w1.frozen? ⟨w.heap.size, 0, none⟩ = false := bfz g1 (by (try simp) <;> omega) (by first | with_reducible assumption | go_simp)
  have c1_0_1 : w1.cell? ⟨w.heap.size, 1, none⟩ = some (.string ⟨#[]⟩) := bc g1 (by first | with_reducible assumption | go_simp)
  have f1_0_1 : w1.frozen? ⟨w.heap.size, 1, none⟩ = false := bfz g1 (by (try simp) <;> omega) (by first | with_reducible assumption | go_simp)
  have c1_1_0 : w1.cell? ⟨w.heap.size + 1, 0, none⟩ = some (.string ⟨#[]⟩) := bc g1 (by first | with_reducible assumption | go_simp)
  have f1_1_0 : w1.frozen? ⟨w.heap.size + 1, 0, none⟩ = false := bfz g1 (by (try simp) <;> omega) (by first | with_reducible assumption | go_simp)
  have c1_1_1 : w1.cell? ⟨w.heap.size + 1, 1, none⟩ = some (.string ⟨#[]⟩) := bc g1 (by first | with_reducible assumption | go_simp)
  have f1_1_1 : w1.frozen? ⟨w.heap.size + 1, 1, none⟩ = false := bfz g1 (by (try simp) <;> omega) (by first | with_reducible assumption | go_simp)
  clear g1
  go_wp2_with fail
  refine (H2.out _ (hB.below (by repeat (first | exact br _ | assumption | refine ba ?_ | refine bd ?_ | refine below_drewN ?_ _ | refine bs ?_ (by (try simp) <;> omega))))).mono ?_
  rintro e w2 ⟨rfl, g2⟩
  have c2_a := bc (b := w1.heap.size) (o := 0) (v := .string b1) g2 (by go_simp)
  have c2_b := bc (b := w1.heap.size) (o := 1) (v := .string d1) g2 (by go_simp)
  have hz3 : w1.heap.size < w2.heap.size := by have := g2.size; (try simp at this); omega
  have hz2 : w.heap.size + 1 < w2.heap.size := by have := g2.size; (try simp at this); omega
  have hz2_0 : w.heap.size < w2.heap.size := by omega
  have B2 : Below w.heap.size w w2 := bn (by repeat (first | exact br _ | assumption | refine ba ?_ | refine bd ?_ | refine below_drewN ?_ _ | refine bs ?_ (by (try simp) <;> omega))) g2
  have c2_0_0 : w2.cell? ⟨w.heap.size, 0, none⟩ = some (.string ⟨#[]⟩) := bc g2 (by first | with_reducible assumption | go_simp)
  have f2_0_0 : w2.frozen? ⟨w.heap.size, 0, none⟩ = false := bfz g2 (by (try simp) <;> omega) (by first | with_reducible assumption | go_simp)
  have c2_0_1 : w2.cell? ⟨w.heap.size, 1, none⟩ = some (.string ⟨#[]⟩) := bc g2 (by first | with_reducible assumption | go_simp)
  have f2_0_1 : w2.frozen? ⟨w.heap.size, 1, none⟩ = false := bfz g2 (by (try simp) <;> omega) (by first | with_reducible assumption | go_simp)
  have c2_1_0 : w2.cell? ⟨w.heap.size + 1, 0, none⟩ = some (.string ⟨#[]⟩) := bc g2 (by first | with_reducible assumption | go_simp)
  have f2_1_0 : w2.frozen? ⟨w.heap.size + 1, 0, none⟩ = false := bfz g2 (by (try simp) <;> omega) (by first | with_reducible assumption | go_simp)
  have c2_1_1 : w2.cell? ⟨w.heap.size + 1, 1, none⟩ = some (.string ⟨#[]⟩) := bc g2 (by first | with_reducible assumption | go_simp)
  have f2_1_1 : w2.frozen? ⟨w.heap.size + 1, 1, none⟩ = false := bfz g2 (by (try simp) <;> omega) (by first | with_reducible assumption | go_simp)
  clear g2
  go_wp2
  go_region
  go_wp2
  refine bodyPost_ret (v := .tuple #[.agg #[.string b1, .string d1], .agg #[.string b2, .string d2], .int .i64 0]) (by simp [results, Tryz.results92, go_sem, *]) rfl ⟨(by first | rfl | rw [hI]), (by repeat (first | exact br _ | assumption | refine ba ?_ | refine bd ?_ | refine below_drewN ?_ _ | refine bs ?_ (by (try simp) <;> omega)))⟩

set_option maxHeartbeats 1000000 in
theorem rboth_bad (s t : ByteArray) (hs : s.size ≤ 40000000) (ht : t.size ≤ 40000000) (r1 r2 : Bool) (h1 : isRat s = r1) (h2 : isRat t = r2) (hr : (r1 && r2) = false) (w : World) (hB : Bw w) :
    Calls Tryz.prog 92 #[.string s, .string t] w fun e w' => e = .returned (.tuple #[.agg #[.string ⟨#[]⟩, .string ⟨#[]⟩], .agg #[.string ⟨#[]⟩, .string ⟨#[]⟩], .int .i64 1]) ∧ Below w.heap.size w w' := by
  have H1 := Lib.hid (fun w hB => rread_some s hs w hB)
  have H2 := Lib.hid (fun w hB => rread_some t ht w hB)
  rw [h1] at H1
  rw [h2] at H2
  clear hs ht h1 h2
  cases r1 <;> cases r2
  case true.true => cases hr
  all_goals
    clear hr
    go_enter Tryz.func92, Tryz.ntmps92
    go_wp2_with fail
    refine (H1.out _ (hB.below (by repeat (first | exact br _ | assumption | refine ba ?_ | refine bd ?_ | refine below_drewN ?_ _ | refine bs ?_ (by (try simp) <;> omega))))).mono ?_
    rintro e w1 ⟨_, rfl, ⟨p1, d1, rfl⟩, g1⟩
    have hz1 : w.heap.size + 1 < w1.heap.size := by have := g1.size; (try simp at this); omega
    have hz1_0 : w.heap.size < w1.heap.size := by omega
    have B1 : Below w.heap.size w w1 := bn (by repeat (first | exact br _ | assumption | refine ba ?_ | refine bd ?_ | refine below_drewN ?_ _ | refine bs ?_ (by (try simp) <;> omega))) g1
    have c1_0_0 : w1.cell? ⟨w.heap.size, 0, none⟩ = some (.string ⟨#[]⟩) := bc g1 (by first | with_reducible assumption | go_simp)
    have f1_0_0 : w1.frozen? ⟨w.heap.size, 0, none⟩ = false := bfz g1 (by (try simp) <;> omega) (by first | with_reducible assumption | go_simp)
    have c1_0_1 : w1.cell? ⟨w.heap.size, 1, none⟩ = some (.string ⟨#[]⟩) := bc g1 (by first | with_reducible assumption | go_simp)
    have f1_0_1 : w1.frozen? ⟨w.heap.size, 1, none⟩ = false := bfz g1 (by (try simp) <;> omega) (by first | with_reducible assumption | go_simp)
    have c1_1_0 : w1.cell? ⟨w.heap.size + 1, 0, none⟩ = some (.string ⟨#[]⟩) := bc g1 (by first | with_reducible assumption | go_simp)
    have f1_1_0 : w1.frozen? ⟨w.heap.size + 1, 0, none⟩ = false := bfz g1 (by (try simp) <;> omega) (by first | with_reducible assumption | go_simp)
    have c1_1_1 : w1.cell? ⟨w.heap.size + 1, 1, none⟩ = some (.string ⟨#[]⟩) := bc g1 (by first | with_reducible assumption | go_simp)
    have f1_1_1 : w1.frozen? ⟨w.heap.size + 1, 1, none⟩ = false := bfz g1 (by (try simp) <;> omega) (by first | with_reducible assumption | go_simp)
    clear g1
    go_wp2_with fail
    refine (H2.out _ (hB.below (by repeat (first | exact br _ | assumption | refine ba ?_ | refine bd ?_ | refine below_drewN ?_ _ | refine bs ?_ (by (try simp) <;> omega))))).mono ?_
    rintro e w2 ⟨_, rfl, ⟨p2, d2, rfl⟩, g2⟩
    have hz2 : w.heap.size + 1 < w2.heap.size := by have := g2.size; (try simp at this); omega
    have hz2_0 : w.heap.size < w2.heap.size := by omega
    have B2 : Below w.heap.size w w2 := bn (by repeat (first | exact br _ | assumption | refine ba ?_ | refine bd ?_ | refine below_drewN ?_ _ | refine bs ?_ (by (try simp) <;> omega))) g2
    have c2_0_0 : w2.cell? ⟨w.heap.size, 0, none⟩ = some (.string ⟨#[]⟩) := bc g2 (by first | with_reducible assumption | go_simp)
    have f2_0_0 : w2.frozen? ⟨w.heap.size, 0, none⟩ = false := bfz g2 (by (try simp) <;> omega) (by first | with_reducible assumption | go_simp)
    have c2_0_1 : w2.cell? ⟨w.heap.size, 1, none⟩ = some (.string ⟨#[]⟩) := bc g2 (by first | with_reducible assumption | go_simp)
    have f2_0_1 : w2.frozen? ⟨w.heap.size, 1, none⟩ = false := bfz g2 (by (try simp) <;> omega) (by first | with_reducible assumption | go_simp)
    have c2_1_0 : w2.cell? ⟨w.heap.size + 1, 0, none⟩ = some (.string ⟨#[]⟩) := bc g2 (by first | with_reducible assumption | go_simp)
    have f2_1_0 : w2.frozen? ⟨w.heap.size + 1, 0, none⟩ = false := bfz g2 (by (try simp) <;> omega) (by first | with_reducible assumption | go_simp)
    have c2_1_1 : w2.cell? ⟨w.heap.size + 1, 1, none⟩ = some (.string ⟨#[]⟩) := bc g2 (by first | with_reducible assumption | go_simp)
    have f2_1_1 : w2.frozen? ⟨w.heap.size + 1, 1, none⟩ = false := bfz g2 (by (try simp) <;> omega) (by first | with_reducible assumption | go_simp)
    clear g2
    go_wp2
    refine bodyPost_ret (v := .tuple #[.agg #[.string ⟨#[]⟩, .string ⟨#[]⟩], .agg #[.string ⟨#[]⟩, .string ⟨#[]⟩], .int .i64 1]) (by simp [results, Tryz.results92, go_sem, *]) rfl ⟨(by first | rfl | rw [hI]), (by repeat (first | exact br _ | assumption | refine ba ?_ | refine bd ?_ | refine below_drewN ?_ _ | refine bs ?_ (by (try simp) <;> omega)))⟩

theorem chk_u8 (e : Bool) (k : Int) (w : World) : (Instr.checkKey e 10000 5 (.int .u8 k)).run Tryz.prog w = .ok () w := by
  rw [show (10000 : Nat) = 9999 + 1 from rfl]
  unfold Instr.checkKey
  simp [run_underlying Tryz.underlying5]
theorem find_u8 {es : List MapEntry} {k : Int} {r : Option (Nat × Value)} (hk : Instr.findNow (.int .u8) (.int .u8 k) es 0 = some r) (w : World) : (Instr.findKey 5 (.int .u8 k) es).run Tryz.prog w = .ok r w := by
  simp [Instr.findKey, run_underlying Tryz.underlying5, hk]
theorem push_set {α : Type} (a : Array α) (x y : α) : (a.push x).setIfInBounds a.size y = a.push y := by
  apply Array.ext'
  simp
theorem upd_new (w : World) (es : Array MapEntry) (c : Nat) (k : Int) (v : Value) (hk : Instr.findNow (.int .u8) (.int .u8 k) es.toList 0 = some none) : (Instr.mapUpdate 174 (.map (some w.heap.size)) (.int .u8 k) v).run Tryz.prog (w.alloc (.map es c)) = .ok () (w.alloc (.map (es.push ⟨.int .u8 k, v, c⟩) (c + 1))) := by
  have hb := heap_new w (.map es c)
  have hf := find_u8 hk
  simp [Instr.mapUpdate, run_underlying Tryz.underlying174, MapKept.run_getObj_map hb, chk_u8, hf, MapKept.run_setObj_map _ hb, Result.andThen]
  simp [World.alloc, -World.alloc_eq]
  exact push_set _ _ _
/-- The map of the four operations. -/
def opsMap : Obj := .map #[⟨.int .u8 43, .func (.func 181) #[] #[], 0⟩, ⟨.int .u8 42, .func (.func 182) #[] #[], 1⟩, ⟨.int .u8 45, .func (.func 183) #[] #[], 2⟩, ⟨.int .u8 47, .func (.func 185) #[] #[], 3⟩] 4
set_option maxHeartbeats 1000000 in
theorem operations_walk (w : World) :
    Calls Tryz.prog 162 #[] w fun e w' => e = .returned (.map (some w.heap.size)) ∧ w' = w.alloc opsMap := by
  have hmm := @run_makeMap Tryz.prog
  have h1 := upd_new w #[] 0 43 (.func (.func 181) #[] #[]) (by rfl)
  simp only [List.push_toArray, List.nil_append, List.cons_append, Nat.reduceAdd] at h1
  have h2 := upd_new w #[⟨.int .u8 43, .func (.func 181) #[] #[], 0⟩] 1 42 (.func (.func 182) #[] #[]) (by rfl)
  simp only [List.push_toArray, List.nil_append, List.cons_append, Nat.reduceAdd] at h2
  have h3 := upd_new w #[⟨.int .u8 43, .func (.func 181) #[] #[], 0⟩, ⟨.int .u8 42, .func (.func 182) #[] #[], 1⟩] 2 45 (.func (.func 183) #[] #[]) (by rfl)
  simp only [List.push_toArray, List.nil_append, List.cons_append, Nat.reduceAdd] at h3
  have h4 := upd_new w #[⟨.int .u8 43, .func (.func 181) #[] #[], 0⟩, ⟨.int .u8 42, .func (.func 182) #[] #[], 1⟩, ⟨.int .u8 45, .func (.func 183) #[] #[], 2⟩] 3 47 (.func (.func 185) #[] #[]) (by rfl)
  simp only [List.push_toArray, List.nil_append, List.cons_append, Nat.reduceAdd] at h4
  go_enter Tryz.func162, Tryz.ntmps162
  go_wp2
  go_ret
  exact ⟨rfl, rfl⟩
theorem all_walk (w : World) :
    Calls Tryz.prog 132 #[] w fun e w' => e = .returned (.map (some w.heap.size)) ∧ w' = w.alloc opsMap := by
  go_enter Tryz.func132, Tryz.ntmps132
  go_wp2_with fail
  refine (operations_walk _).mono ?_
  rintro e w' ⟨rfl, rfl⟩
  go_wp2
  go_ret
  exact ⟨rfl, rfl⟩
theorem look_op (W : World) (b : Nat) (k : Int) (v : Value) (i : Nat) (hb : W.heap[b]? = some opsMap) (hk : Instr.findNow (.int .u8) (.int .u8 k) ([⟨.int .u8 43, .func (.func 181) #[] #[], 0⟩, ⟨.int .u8 42, .func (.func 182) #[] #[], 1⟩, ⟨.int .u8 45, .func (.func 183) #[] #[], 2⟩, ⟨.int .u8 47, .func (.func 185) #[] #[], 3⟩] : List MapEntry) 0 = some (some (i, v))) :
    (Instr.lookup 174 (.map (some b)) (.int .u8 k) false).run Tryz.prog W = .ok v W := by
  have hf := find_u8 hk
  unfold opsMap at hb
  simp [Instr.lookup, run_underlying Tryz.underlying174, MapKept.run_getObj_map hb, chk_u8, hf, Result.andThen]

end Go.Proofs.YtbnbaokamccmjaaGreatDoor
