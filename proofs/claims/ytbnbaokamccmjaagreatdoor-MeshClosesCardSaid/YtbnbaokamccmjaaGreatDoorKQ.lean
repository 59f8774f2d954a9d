/- law of chapter 12: MeshCloses: slices.Delete of a solid, slices.Clone of vectors, few, the bad ways of Prism, Move, Join. -/
import Derived.Test.YtbnbaokamccmjaaGreatDoorKG
import Derived.Deep.MidRow
import Derived.Deep.RegionLaw
import Derived.Lib.SliceRun
set_option linter.unusedVariables false
set_option linter.unusedSimpArgs false
namespace Go.Proofs.YtbnbaokamccmjaaGreatDoor
open Go Go.RowKit

/-! ### few, whatever the row's length is -/
set_option maxHeartbeats 1000000 in
theorem Few2_walk (v : Value) (l : List SV) (w : World) (hv : Vs w v l) :
    Calls Tryz.prog 47 #[v] w fun e w' => e = .returned (.bool (l.all isFew)) ∧ Below w.heap.size w w' := by
  obtain ⟨A, cap, rfl, hn, hc, hcell⟩ := hv.open
  have HCL := Lib.hid hcell
  have HTE := Lib.hid (show l.take l.length = l from List.take_length)
  obtain ⟨n, hn0⟩ : ∃ n, n = l.length := ⟨_, rfl⟩
  have HG := Lib.hid (fun k (hk : k < n) => (show ∃ s, l[k]? = some s from ⟨_, List.getElem?_eq_getElem (by rw [← hn0]; exact hk)⟩))
  rw [← hn0] at hn HCL HTE ⊢
  clear hn0 hv hcell
  go_enter Tryz.func47, Tryz.ntmps47
  go_wp2
  go_loopw [3] (fun ii wr => ∃ k : Nat, k ≤ n ∧ ii = .int .i64 k ∧ Hid ((l.take k).all isFew = true) ∧ wr = w) (fun ii _ => n - (intOf ii).toNat)
  case atStart => exact ⟨0, Nat.zero_le _, rfl, Lib.hid rfl, rfl⟩
  case round =>
    obtain ⟨k, hk, rfl, hd, rfl⟩ := hrel
    by_cases hlt : k < n
    · obtain ⟨s, hg⟩ := HG.out k hlt
      obtain ⟨b, off, rfl, hcl⟩ := HCL.out (by omega)
      obtain ⟨c0, c1, c2⟩ := hcl k _ hg
      have HT := Lib.hid (fun (h : isFew s = true) => take_all hg hd.out h)
      have HF : Hid (isFew s = false → l.all isFew = false) := Lib.hid (fun h => List.all_eq_false.2 ⟨s, List.mem_of_getElem? hg, by rw [h]; decide⟩)
      have hk0 : (0 : Int) ≤ (k : Int) := by omega
      have hkn : (k : Int) < (n : Int) := by omega
      clear hg hcl hd
      by_cases h0 : s.x.size ≤ 20
      · have i0 : (s.x.size : Int) ≤ 20 := by omega
        by_cases h1 : s.y.size ≤ 20
        · have i1 : (s.y.size : Int) ≤ 20 := by omega
          by_cases h2 : s.z.size ≤ 20
          · have i2 : (s.z.size : Int) ≤ 20 := by omega
            have E := Lib.hid (HT.out (by simp [isFew, h0, h1, h2]))
            clear HT HF
            go_wp2
            go_roundw
            case rel => exact ⟨k + 1, by omega, by go_num, E, trivial⟩
            case measure => simp [intOf]; omega
          · have i2 : (20 : Int) < (s.z.size : Int) := by omega
            have E := Lib.hid (HF.out (by simp [isFew, h2]))
            clear HT HF
            go_wp2
            go_ret
            exact ⟨by rw [E.out]; rfl, br _⟩
        · have i1 : (20 : Int) < (s.y.size : Int) := by omega
          have E := Lib.hid (HF.out (by simp [isFew, h1]))
          clear HT HF
          go_wp2
          go_ret
          exact ⟨by rw [E.out]; rfl, br _⟩
      · have i0 : (20 : Int) < (s.x.size : Int) := by omega
        have E := Lib.hid (HF.out (by simp [isFew, h0]))
        clear HT HF
        go_wp2
        go_ret
        exact ⟨by rw [E.out]; rfl, br _⟩
    · obtain rfl : k = n := by omega
      rw [HTE.out] at hd
      have E := Lib.hid hd.out
      clear hd
      go_wp2
      go_ret
      exact ⟨by rw [E.out]; rfl, br _⟩

set_option maxHeartbeats 1000000 in
theorem few2_walk (v : Value) (l : List SV) (w : World) (hv : Vs w v l) :
    Calls Tryz.prog 11 #[v] w fun e w' => e = .returned (.bool (l.all isFew)) ∧ Below w.heap.size w w' := by
  have H := Lib.hid (Few2_walk v l w hv)
  obtain ⟨A, cap, rfl, -, -, -⟩ := hv.open
  clear hv
  generalize l.all isFew = r at *
  go_enter Tryz.func11, Tryz.ntmps11
  go_wp2_with fail
  refine H.out.mono ?_
  rintro e w1 ⟨rfl, g1⟩
  go_wp2
  go_ret
  exact ⟨rfl, g1⟩

/-! ### slices.Clone of vectors -/
theorem svs_one_cell (l : List SV) : ∀ y, y ∈ svs l → y.oneCell' = true := by
  intro y hy
  unfold svs at hy
  obtain ⟨s, _, h⟩ := List.mem_flatMap.1 hy
  simp only [SV.cells, List.mem_cons, List.not_mem_nil, or_false] at h
  rcases h with rfl | rfl | rfl <;> rfl
set_option maxHeartbeats 2000000 in
set_option maxRecDepth 100000 in
theorem cloneV_walk (v : Value) (l : List SV) (w : World) (hv : Vs w v l) (hm : l.length ≤ 1000000) :
    Calls Tryz.prog 13 #[v] w (Ret fun u w' => w'.ownsRow w.heap.size 25 3 u l.length (svs l) ∧ Below w.heap.size w w') := by
  have HV := Lib.hid hv
  have HO := Lib.hid (svs_one_cell l)
  obtain ⟨A, cap, rfl, hn, hc, hcell⟩ := hv.open
  unfold Vs at HV
  have HN : Hid (A = none → l = []) := Lib.hid (fun h => by
    cases l with
    | nil => rfl
    | cons t l =>
      obtain ⟨b, off, h2, _⟩ := hcell (by simp)
      rw [h] at h2
      cases h2)
  clear hcell hv
  have q : ∀ (w : World) (a : Option Addr) (n c n' c' : Nat), (binOp .eql 22 (.slice a n c) (.slice none n' c')).run Tryz.prog w = .ok (.bool a.isNone) w := fun w a n c n' c' => Lib.run_eql_slice_nil w _ _ a n c n' c' Tryz.underlying22
  cases A with
  | none =>
    have e := HN.out rfl
    subst e
    clear HN HV HO
    go_enter Tryz.func13, Tryz.ntmps13
    go_wp2
    go_ret
    exact ⟨_, rfl, World.ownsRow_nil _ _ _ _, Below.refl _ _⟩
  | some ad =>
    clear HN
    go_enter Tryz.func13, Tryz.ntmps13
    go_wp2_with (at_builtin; refine append_rd (w0 := w) w.heap.size rfl (.tmp 5) (.tmp 6) 22 25 _ 3 48 rfl Tryz.underlying22 info_vec rfl (by omega) (by omega) _ 0 l.length [] (svs l) rfl _ rfl (Rd.below HV.out (ba (br w))) HO.out (World.ownsRow_made w #[] 0 (Nat.le_refl _) (Nat.zero_le _) (by simp)) (ba (br w)) (by (try simp) <;> omega) (by omega) ?_; intro v2 w2 hown2 hb2 hg2)
    have HW := Lib.hid hown2
    clear hown2 hg2
    go_wp2
    go_ret
    refine ⟨_, rfl, ?_, hb2⟩
    have := HW.out
    rw [Nat.zero_add, List.nil_append] at this
    exact this
theorem cloneV_sl (v : Value) (l : List SV) (n : Nat) (hn : l.length = n) (hm : n ≤ 1000000) (w : World) (hv : Vs w v l) :
    Calls Tryz.prog 13 #[v] w (Ret fun r w' => (∃ A c, r = .slice A n c ∧ Vs w' (.slice A n c) l) ∧ Below w.heap.size w w') := by
  refine (cloneV_walk v l w hv (by omega)).mono ?_
  rintro e w' ⟨r, he, hu, hg⟩
  have hu2 : Vs w' r l := Vs.own hu
  obtain ⟨A, c, hA, _⟩ := hu2.open
  subst hA
  rw [hn] at hu2 he
  exact ⟨_, he, ⟨A, c, rfl, hu2⟩, hg⟩

/-! ### The bad ways of Prism, Move and Join -/
set_option maxHeartbeats 1000000 in
theorem mPrism_bad (v : Value) (l : List SV) (x y z : ByteArray) (w : World) (hB : Bw w) (hv : Vs w v l) (hs : ∀ s ∈ l, s.le 40000000) (hm : l.length ≤ 1000) (u : Int) (hz : polC l (4 * (l.length : Int) - 4) = u) (h0 : u ≠ 0) :
    Calls Tryz.prog 15 #[v, .agg #[.string x, .string y, .string z]] w fun e w' => e = .returned (.tuple #[.slice none 0 0, .int .i64 u]) ∧ Below w.heap.size w w' := by
  have H := Lib.hid (fun w hB hv => polygon_walk v l (4 * (l.length : Int) - 4) w hB hv hs)
  rw [hz] at H
  obtain ⟨A, cap, rfl, hn, hc, hcell⟩ := hv.open
  clear hcell hs hz
  generalize l.length = n at *
  have hw1 : wrap64 (4 * (n : Int)) = 4 * (n : Int) := by unfold wrap64; omega
  have hw2 : wrap64 (4 * (n : Int) - 4) = 4 * (n : Int) - 4 := by unfold wrap64; omega
  go_enter Tryz.func15, Tryz.ntmps15
  go_wp2_with fail
  refine (H.out _ (hB.below (by repeat (first | exact br _ | assumption | refine ba ?_ | refine bd ?_ | refine below_drewN ?_ _ | refine bs ?_ (by (try simp) <;> omega)))) (hv.below (by repeat (first | exact br _ | assumption | refine ba ?_ | refine bd ?_ | refine below_drewN ?_ _ | refine bs ?_ (by (try simp) <;> omega))))).mono ?_
  rintro e w1 ⟨rfl, g1⟩
  have B1 : Below w.heap.size w w1 := bn (by repeat (first | exact br _ | assumption | refine ba ?_ | refine bd ?_ | refine below_drewN ?_ _ | refine bs ?_ (by (try simp) <;> omega))) g1
  clear g1
  go_wp2
  go_ret2
  exact ⟨rfl, (by repeat (first | exact br _ | assumption | refine ba ?_ | refine bd ?_ | refine below_drewN ?_ _ | refine bs ?_ (by (try simp) <;> omega)))⟩
set_option maxHeartbeats 1000000 in
theorem mPrism_arg (v : Value) (l : List SV) (d : SV) (w : World) (hB : Bw w) (hv : Vs w v l) (hs : ∀ s ∈ l, s.le 40000000) (hd : d.le 40000000) (hm : l.length ≤ 1000) (hz : polC l (4 * (l.length : Int) - 4) = 0) (h0 : isVec d = false) :
    Calls Tryz.prog 15 #[v, d.val] w fun e w' => e = .returned (.tuple #[.slice none 0 0, .int .i64 1]) ∧ Below w.heap.size w w' := by
  have H := Lib.hid (fun w hB hv => polygon_walk v l (4 * (l.length : Int) - 4) w hB hv hs)
  rw [hz] at H
  have H2 := Lib.hid (fun w hB => vValid_walk d hd w hB)
  rw [h0] at H2
  obtain ⟨A, cap, rfl, hn, hc, hcell⟩ := hv.open
  clear hcell hs hz hd h0
  generalize l.length = n at *
  unfold SV.val at *
  generalize d.x = x at *
  generalize d.y = y at *
  generalize d.z = z at *
  have hw1 : wrap64 (4 * (n : Int)) = 4 * (n : Int) := by unfold wrap64; omega
  have hw2 : wrap64 (4 * (n : Int) - 4) = 4 * (n : Int) - 4 := by unfold wrap64; omega
  go_enter Tryz.func15, Tryz.ntmps15
  go_wp2_with fail
  refine (H.out _ (hB.below (by repeat (first | exact br _ | assumption | refine ba ?_ | refine bd ?_ | refine below_drewN ?_ _ | refine bs ?_ (by (try simp) <;> omega)))) (hv.below (by repeat (first | exact br _ | assumption | refine ba ?_ | refine bd ?_ | refine below_drewN ?_ _ | refine bs ?_ (by (try simp) <;> omega))))).mono ?_
  rintro e w1 ⟨rfl, g1⟩
  have hz1 : w.heap.size < w1.heap.size := by have := g1.size; (try simp at this); omega
  have B1 : Below w.heap.size w w1 := bn (by repeat (first | exact br _ | assumption | refine ba ?_ | refine bd ?_ | refine below_drewN ?_ _ | refine bs ?_ (by (try simp) <;> omega))) g1
  have c1_0_0 : w1.cell? ⟨w.heap.size, 0, none⟩ = some (.string x) := bc g1 (by first | with_reducible assumption | go_simp)
  have f1_0_0 : w1.frozen? ⟨w.heap.size, 0, none⟩ = false := bfz g1 (by (try simp) <;> omega) (by first | with_reducible assumption | go_simp)
  have c1_0_1 : w1.cell? ⟨w.heap.size, 1, none⟩ = some (.string y) := bc g1 (by first | with_reducible assumption | go_simp)
  have f1_0_1 : w1.frozen? ⟨w.heap.size, 1, none⟩ = false := bfz g1 (by (try simp) <;> omega) (by first | with_reducible assumption | go_simp)
  have c1_0_2 : w1.cell? ⟨w.heap.size, 2, none⟩ = some (.string z) := bc g1 (by first | with_reducible assumption | go_simp)
  have f1_0_2 : w1.frozen? ⟨w.heap.size, 2, none⟩ = false := bfz g1 (by (try simp) <;> omega) (by first | with_reducible assumption | go_simp)
  clear g1
  go_wp2_with fail
  refine (H2.out _ (hB.below (by repeat (first | exact br _ | assumption | refine ba ?_ | refine bd ?_ | refine below_drewN ?_ _ | refine bs ?_ (by (try simp) <;> omega))))).mono ?_
  rintro e w2 ⟨rfl, g2⟩
  have B2 : Below w.heap.size w w2 := bn (by repeat (first | exact br _ | assumption | refine ba ?_ | refine bd ?_ | refine below_drewN ?_ _ | refine bs ?_ (by (try simp) <;> omega))) g2
  clear g2
  go_wp2
  go_ret2
  exact ⟨rfl, (by repeat (first | exact br _ | assumption | refine ba ?_ | refine bd ?_ | refine below_drewN ?_ _ | refine bs ?_ (by (try simp) <;> omega)))⟩
set_option maxHeartbeats 1000000 in
theorem mMove_bad (v : Value) (l : List TV) (d : SV) (w : World) (hB : Bw w) (hv : Ts w v l) (hs : tle l 40000000) (hd : d.le 40000000) (hz : chkC l = 0) (h0 : isVec d = false) :
    Calls Tryz.prog 21 #[v, d.val] w fun e w' => e = .returned (.tuple #[.slice none 0 0, .int .i64 1]) ∧ Below w.heap.size w w' := by
  have H := Lib.hid (fun w hB hv => check_walk v l w hB hv hs)
  rw [hz] at H
  have H2 := Lib.hid (fun w hB => vValid_walk d hd w hB)
  rw [h0] at H2
  obtain ⟨A, cap, rfl, hn, hc, hcell⟩ := hv.open
  clear hcell hs hz hd h0 hn hc
  generalize l.length = n at *
  unfold SV.val at *
  generalize d.x = x at *
  generalize d.y = y at *
  generalize d.z = z at *
  go_enter Tryz.func21, Tryz.ntmps21
  go_wp2_with fail
  refine (H.out _ (hB.below (by repeat (first | exact br _ | assumption | refine ba ?_ | refine bd ?_ | refine below_drewN ?_ _ | refine bs ?_ (by (try simp) <;> omega)))) (hv.below (by repeat (first | exact br _ | assumption | refine ba ?_ | refine bd ?_ | refine below_drewN ?_ _ | refine bs ?_ (by (try simp) <;> omega))))).mono ?_
  rintro e w1 ⟨rfl, g1⟩
  have hz1 : w.heap.size < w1.heap.size := by have := g1.size; (try simp at this); omega
  have B1 : Below w.heap.size w w1 := bn (by repeat (first | exact br _ | assumption | refine ba ?_ | refine bd ?_ | refine below_drewN ?_ _ | refine bs ?_ (by (try simp) <;> omega))) g1
  have c1_0_0 : w1.cell? ⟨w.heap.size, 0, none⟩ = some (.string x) := bc g1 (by first | with_reducible assumption | go_simp)
  have f1_0_0 : w1.frozen? ⟨w.heap.size, 0, none⟩ = false := bfz g1 (by (try simp) <;> omega) (by first | with_reducible assumption | go_simp)
  have c1_0_1 : w1.cell? ⟨w.heap.size, 1, none⟩ = some (.string y) := bc g1 (by first | with_reducible assumption | go_simp)
  have f1_0_1 : w1.frozen? ⟨w.heap.size, 1, none⟩ = false := bfz g1 (by (try simp) <;> omega) (by first | with_reducible assumption | go_simp)
  have c1_0_2 : w1.cell? ⟨w.heap.size, 2, none⟩ = some (.string z) := bc g1 (by first | with_reducible assumption | go_simp)
  have f1_0_2 : w1.frozen? ⟨w.heap.size, 2, none⟩ = false := bfz g1 (by (try simp) <;> omega) (by first | with_reducible assumption | go_simp)
  clear g1
  go_wp2_with fail
  refine (H2.out _ (hB.below (by repeat (first | exact br _ | assumption | refine ba ?_ | refine bd ?_ | refine below_drewN ?_ _ | refine bs ?_ (by (try simp) <;> omega))))).mono ?_
  rintro e w2 ⟨rfl, g2⟩
  have B2 : Below w.heap.size w w2 := bn (by repeat (first | exact br _ | assumption | refine ba ?_ | refine bd ?_ | refine below_drewN ?_ _ | refine bs ?_ (by (try simp) <;> omega))) g2
  clear g2
  go_wp2
  go_ret2
  exact ⟨rfl, (by repeat (first | exact br _ | assumption | refine ba ?_ | refine bd ?_ | refine below_drewN ?_ _ | refine bs ?_ (by (try simp) <;> omega)))⟩
set_option maxHeartbeats 2000000 in
set_option maxRecDepth 100000 in
theorem mJoin_second (v1 v2 : Value) (l1 l2 : List TV) (u : Int) (w : World) (hB : Bw w) (hv1 : Ts w v1 l1) (hv2 : Ts w v2 l2) (hs1 : tle l1 40000000) (hs2 : tle l2 40000000) (hz1 : chkC l1 = 0) (hz2 : chkC l2 = u) (h0 : u ≠ 0) :
    Calls Tryz.prog 28 #[v1, v2] w fun e w' => e = .returned (.tuple #[.slice none 0 0, .int .i64 u]) ∧ Below w.heap.size w w' := by
  have H1 := Lib.hid (fun w hB hv => check_walk v1 l1 w hB hv hs1)
  have H2 := Lib.hid (fun w hB hv => check_walk v2 l2 w hB hv hs2)
  rw [hz1] at H1
  rw [hz2] at H2
  obtain ⟨A1, cap1, rfl, hn1, hc1, hcell1⟩ := hv1.open
  obtain ⟨A2, cap2, rfl, hn2, hc2, hcell2⟩ := hv2.open
  have HV1 := Lib.hid hv1
  have HV2 := Lib.hid hv2
  clear hcell1 hcell2 hs1 hs2 hz1 hz2 hc1 hc2 hn1 hn2 hv1 hv2
  go_enter Tryz.func28, Tryz.ntmps28
  go_wp2
  refine wp_loop_rounds 3 ?_
  rw [rounds_succ]
  go_wp2_with fail
  refine (H1.out _ (hB.below (by repeat (first | exact br _ | assumption | refine ba ?_ | refine bd ?_ | refine below_drewN ?_ _ | refine bs ?_ (by (try simp) <;> omega)))) (HV1.out.below (by repeat (first | exact br _ | assumption | refine ba ?_ | refine bd ?_ | refine below_drewN ?_ _ | refine bs ?_ (by (try simp) <;> omega))))).mono ?_
  rintro e w1 ⟨rfl, g1⟩
  have c0 := bc (b := w.heap.size) (o := 0) (v := .slice A1 l1.length cap1) g1 (by go_simp)
  have c1 := bc (b := w.heap.size) (o := 1) (v := .slice A2 l2.length cap2) g1 (by go_simp)
  have B1 : Below w.heap.size w w1 := bn (by repeat (first | exact br _ | assumption | refine ba ?_ | refine bd ?_ | refine below_drewN ?_ _ | refine bs ?_ (by (try simp) <;> omega))) g1
  clear g1
  go_wp2
  rw [rounds_succ]
  go_wp2_with fail
  refine (H2.out _ (hB.below (by repeat (first | exact br _ | assumption | refine ba ?_ | refine bd ?_ | refine below_drewN ?_ _ | refine bs ?_ (by (try simp) <;> omega)))) (HV2.out.below (by repeat (first | exact br _ | assumption | refine ba ?_ | refine bd ?_ | refine below_drewN ?_ _ | refine bs ?_ (by (try simp) <;> omega))))).mono ?_
  rintro e w2 ⟨rfl, g2⟩
  have B2 : Below w.heap.size w w2 := bn (by repeat (first | exact br _ | assumption | refine ba ?_ | refine bd ?_ | refine below_drewN ?_ _ | refine bs ?_ (by (try simp) <;> omega))) g2
  clear g2
  go_wp2
  go_ret2
  exact ⟨rfl, (by repeat (first | exact br _ | assumption | refine ba ?_ | refine bd ?_ | refine below_drewN ?_ _ | refine bs ?_ (by (try simp) <;> omega)))⟩
set_option maxHeartbeats 2000000 in
set_option maxRecDepth 100000 in
theorem mJoin_large (v1 v2 : Value) (l1 l2 : List TV) (w : World) (hB : Bw w) (hv1 : Ts w v1 l1) (hv2 : Ts w v2 l2) (hs1 : tle l1 40000000) (hs2 : tle l2 40000000) (hz1 : chkC l1 = 0) (hz2 : chkC l2 = 0) (hn : 512 < l1.length + l2.length) :
    Calls Tryz.prog 28 #[v1, v2] w fun e w' => e = .returned (.tuple #[.slice none 0 0, .int .i64 8]) ∧ Below w.heap.size w w' := by
  have H1 := Lib.hid (fun w hB hv => check_walk v1 l1 w hB hv hs1)
  have H2 := Lib.hid (fun w hB hv => check_walk v2 l2 w hB hv hs2)
  have k1 := (chkC_zero hz1).1
  have k2 := (chkC_zero hz2).1
  rw [hz1] at H1
  rw [hz2] at H2
  obtain ⟨A1, cap1, rfl, hn1, hc1, hcell1⟩ := hv1.open
  obtain ⟨A2, cap2, rfl, hn2, hc2, hcell2⟩ := hv2.open
  have HV1 := Lib.hid hv1
  have HV2 := Lib.hid hv2
  clear hcell1 hcell2 hs1 hs2 hz1 hz2 hc1 hc2 hn1 hn2 hv1 hv2
  have hw1 : (512 : Int) < (l1.length : Int) + (l2.length : Int) := by omega
  have hw2 : wrap64 ((l1.length : Int) + (l2.length : Int)) = (l1.length : Int) + (l2.length : Int) := by unfold wrap64; omega
  clear hn k1 k2
  go_enter Tryz.func28, Tryz.ntmps28
  go_wp2
  refine wp_loop_rounds 3 ?_
  rw [rounds_succ]
  go_wp2_with fail
  refine (H1.out _ (hB.below (by repeat (first | exact br _ | assumption | refine ba ?_ | refine bd ?_ | refine below_drewN ?_ _ | refine bs ?_ (by (try simp) <;> omega)))) (HV1.out.below (by repeat (first | exact br _ | assumption | refine ba ?_ | refine bd ?_ | refine below_drewN ?_ _ | refine bs ?_ (by (try simp) <;> omega))))).mono ?_
  rintro e w1 ⟨rfl, g1⟩
  have c0 := bc (b := w.heap.size) (o := 0) (v := .slice A1 l1.length cap1) g1 (by go_simp)
  have c1 := bc (b := w.heap.size) (o := 1) (v := .slice A2 l2.length cap2) g1 (by go_simp)
  have B1 : Below w.heap.size w w1 := bn (by repeat (first | exact br _ | assumption | refine ba ?_ | refine bd ?_ | refine below_drewN ?_ _ | refine bs ?_ (by (try simp) <;> omega))) g1
  clear g1
  go_wp2
  rw [rounds_succ]
  go_wp2_with fail
  refine (H2.out _ (hB.below (by repeat (first | exact br _ | assumption | refine ba ?_ | refine bd ?_ | refine below_drewN ?_ _ | refine bs ?_ (by (try simp) <;> omega)))) (HV2.out.below (by repeat (first | exact br _ | assumption | refine ba ?_ | refine bd ?_ | refine below_drewN ?_ _ | refine bs ?_ (by (try simp) <;> omega))))).mono ?_
  rintro e w2 ⟨rfl, g2⟩
  have B2 : Below w.heap.size w w2 := bn (by repeat (first | exact br _ | assumption | refine ba ?_ | refine bd ?_ | refine below_drewN ?_ _ | refine bs ?_ (by (try simp) <;> omega))) g2
  clear g2
  clear c0 c1
  go_wp2
  rw [rounds_succ]
  go_wp2
  go_ret2
  exact ⟨rfl, (by repeat (first | exact br _ | assumption | refine ba ?_ | refine bd ?_ | refine below_drewN ?_ _ | refine bs ?_ (by (try simp) <;> omega)))⟩

/-! ### slices.Delete of one triangle -/
def noTri : List Value := List.replicate 9 (.string ⟨#[]⟩)
def noTriV : Value := .agg #[.string ⟨#[]⟩, .string ⟨#[]⟩, .string ⟨#[]⟩, .string ⟨#[]⟩, .string ⟨#[]⟩, .string ⟨#[]⟩, .string ⟨#[]⟩, .string ⟨#[]⟩, .string ⟨#[]⟩]
theorem zero_tri (w : World) : (zeroValue 43).run Tryz.prog w = .ok noTriV w := by unfold noTriV; kernel_rfl
theorem run_clear_tri (w : World) (ty : TypeId) (b o c : Nat) (ht : w.there b o 9) :
    (Builtin.clear_ #[33] ty #[.slice (some ⟨b, o, none⟩) 1 c]).run Tryz.prog w = .ok (.tuple #[]) (w.setCells b o noTri) := by
  have hzc : (Builtin.zeroCells noTriV.cells 1).toList = noTri := by kernel_rfl
  have hst := run_storeCells_cells (P := Tryz.prog) b o noTri 0 w (fun j hj => by simpa using (ht j (by simpa [noTri] using hj)).1) (fun j hj => by simpa using (ht j (by simpa [noTri] using hj)).2) (by intro v hv; rw [List.eq_of_mem_replicate hv]; rfl)
  simp only [Nat.add_zero] at hst
  unfold noTriV at hzc
  simp [Builtin.clear_, run_underlying Tryz.underlying33, zero_tri, noTriV, hzc, hst]

theorem below_cells {B b : Nat} {a : World} (hb : B ≤ b) : ∀ (vs : List Value) (o : Nat) {w : World}, Below B a w → Below B a (w.setCells b o vs)
  | [], _, _, h => h
  | v :: r, o, _, h => below_cells hb r (o + 1) (h.setCell (p := ⟨b, o, none⟩) hb v)
theorem drop_take_below {l : List TV} {n i : Nat} (hl : l.length = n) (hi : i < n) : (l.take i ++ l.drop (i + 1)).length = n - 1 := by
  rw [List.length_append, List.length_take, List.length_drop]
  omega
set_option maxHeartbeats 2000000 in
set_option maxRecDepth 100000 in
theorem delete_at (g n cap i j base : Nat) (l : List TV) (w : World) (hl : l.length = n) (hi : i < n) (hj : j = i + 1) (hm : n ≤ 1000000) (ho : w.ownsRow base 43 9 (.slice (some ⟨g, 0, none⟩) n cap) n (tcs l)) :
    Calls Tryz.prog 45 #[.slice (some ⟨g, 0, none⟩) n cap, .int .i64 i, .int .i64 j] w fun e w' => e = .returned (.slice (some ⟨g, 0, none⟩) (n - 1) cap) ∧ Ts w' (.slice (some ⟨g, 0, none⟩) (n - 1) cap) (l.take i ++ l.drop (i + 1)) ∧ Below base w w' := by
  have hg : base ≤ g := (ho.lt g rfl).1
  have hlen9 : (tcs l).length = n * 9 := by rw [tcs_length, hl]
  obtain ⟨hnc, hcm⟩ : n ≤ cap ∧ cap ≤ maxLen := by
    rcases ho.2 with ⟨h, _⟩ | ⟨g', cap', cur, h, _, _, h2, h3, _⟩
    · cases h
    · simp only [Value.slice.injEq, Option.some.injEq, Addr.mk.injEq, and_true, true_and] at h
      obtain ⟨rfl, rfl⟩ := h
      exact ⟨h2, h3⟩
  have hcell : ∀ j, j < n * 9 → w.drew.cell? ⟨g, j, none⟩ = (tcs l)[j]? := fun j hj => ho.cellAt j hj
  have hfr : ∀ j, w.drew.frozen? ⟨g, j, none⟩ = false := fun j => ho.frozenAt j
  have hthere : w.drew.there g 0 (n * 9) := fun j hj => by
    rw [Nat.zero_add]
    refine ⟨?_, hfr j⟩
    rw [hcell j hj, List.getElem?_eq_getElem (by omega)]
    rfl
  -- the triangles behind
  obtain ⟨news, hnews⟩ : ∃ news, news = tcs (l.drop (i + 1)) := ⟨_, rfl⟩
  have hnl : news.length = (n - (i + 1)) * 9 := by rw [hnews, tcs_length, List.length_drop, hl]
  have hnd : news = (tcs l).drop ((i + 1) * 9) := by rw [hnews, tcs_drop]
  obtain ⟨A, hA, hsrc⟩ : ∃ A : Addr, (if cap = i + 1 then some (⟨g, 0, none⟩ : Addr) else some ⟨g, (i + 1) * 9, none⟩) = some A ∧ Hid (∀ t u, news[t]? = some u → w.drew.cell? (A.add t) = some u) := by
    by_cases h : cap = i + 1
    · refine ⟨⟨g, 0, none⟩, by simp [h], fun t u hu => ?_⟩
      have h0 : news.length = 0 := by rw [hnl]; omega
      rw [List.length_eq_zero_iff.1 h0] at hu
      simp at hu
    · refine ⟨⟨g, (i + 1) * 9, none⟩, by simp [h], fun t u hu => ?_⟩
      have ht := (List.getElem?_eq_some_iff.1 hu).1
      rw [Addr.add_mid, hcell _ (by omega), ← hu, hnd, List.getElem?_drop]
  have s1 := Lib.hid hnl
  have s2 : Hid (∀ u ∈ news, u.oneCell' = true) := Lib.hid (by rw [hnews]; exact tcs_one_cell _)
  have s3 : Hid (∀ t, t < news.length → (w.drew.cell? ⟨g, 0 + i * 9 + t, none⟩).isSome = true ∧ w.drew.frozen? ⟨g, 0 + i * 9 + t, none⟩ = false) := Lib.hid (fun t ht => by
    have := hthere (i * 9 + t) (by omega)
    rw [Nat.zero_add] at this ⊢
    exact this)
  obtain ⟨W1, hW1⟩ : ∃ W1, W1 = w.drew.setCells g (0 + i * 9) news := ⟨_, rfl⟩
  have ht1 : W1.there g ((n - 1) * 9) 9 := by
    rw [hW1]
    refine World.there_setCells (fun j hj => ?_) _ _ _
    have := hthere ((n - 1) * 9 + j) (by omega)
    rwa [Nat.zero_add] at this
  have hcl : ∀ ty c, (Builtin.clear_ #[33] ty #[.slice (some ⟨g, (n - 1) * 9, none⟩) 1 c]).run Tryz.prog W1 = .ok (.tuple #[]) (W1.setCells g ((n - 1) * 9) noTri) := fun ty c => run_clear_tri W1 ty g _ c ht1
  have HF : Hid (Ts (W1.setCells g ((n - 1) * 9) noTri) (.slice (some ⟨g, 0, none⟩) (n - 1) cap) (l.take i ++ l.drop (i + 1)) ∧ Below base w (W1.setCells g ((n - 1) * 9) noTri)) := Lib.hid (by
    have hr1 : w.drew.rangeAt g 0 (tcs (l.take i)) := fun j v hv => by
      rw [tcs_take, List.getElem?_take] at hv
      split at hv
      · rw [Nat.zero_add, hcell j (by omega)]
        exact hv
      · cases hv
    have k1 : (tcs (l.take i)).length = i * 9 := by rw [tcs_length, List.length_take]; omega
    have hr2 : W1.rangeAt g 0 (tcs (l.take i)) := by
      rw [hW1]
      exact World.rangeAt_setCells_apart hr1 _ _ _ (.inr (.inl (by omega)))
    have hr3 : W1.rangeAt g (0 + i * 9) news := by
      rw [hW1]
      exact World.rangeAt_setCells_same _ _ _ _ (fun j hj => s3.out j hj)
    have hr4 := World.rangeAt_setCells_apart hr2 g ((n - 1) * 9) noTri (.inr (.inl (by omega)))
    have hr5 := World.rangeAt_setCells_apart hr3 g ((n - 1) * 9) noTri (.inr (.inl (by omega)))
    have hlen := drop_take_below hl hi
    refine ⟨⟨by rw [tcs_length], some ⟨g, 0, none⟩, cap, by rw [hlen], by rw [hlen]; omega, hcm, fun h0 => ⟨g, 0, rfl, fun j u hu => ?_⟩⟩, ?_⟩
    · rw [tcs_append] at hu
      by_cases hj : j < (tcs (l.take i)).length
      · rw [List.getElem?_append_left hj] at hu
        exact hr4 j u hu
      · rw [List.getElem?_append_right (by omega), ← hnews] at hu
        have := hr5 _ u hu
        rwa [show 0 + i * 9 + (j - (tcs (l.take i)).length) = 0 + j by omega] at this
    · rw [hW1]
      exact below_cells hg _ _ (below_cells hg _ _ ⟨rfl, rfl, rfl, Nat.le_refl _, fun _ _ => rfl⟩))
  have hW := Lib.hid hW1
  obtain ⟨i0, hi0, hzz⟩ := Option.map_eq_some_iff.1 info_tri
  simp only [Prod.mk.injEq] at hzz
  obtain ⟨-, hz1, -⟩ := hzz
  clear hnews hnd hthere hcell hfr ht1 hlen9 ho hnl hW1
  rw [← hj] at hA s1
  have HJ := Lib.hid hj
  clear hj
  have i1 : i ≤ cap := by omega
  have i2 : j ≤ cap := by have := HJ.out; omega
  have i4 : i ≤ j := by have := HJ.out; omega
  have i5 : j ≤ n := by have := HJ.out; omega
  have e1 : n - (i + (n - j)) = 1 := by have := HJ.out; omega
  have e2 : i + (n - j) = n - 1 := by have := HJ.out; omega
  have e3 : n - (n - 1) = 1 := by omega
  have i6 : i < j := by have := HJ.out; omega
  have i7 : ¬ i = j := by omega
  have i3 : ¬ cap = n - 1 := by omega
  go_enter Tryz.func45, Tryz.ntmps45
  go_wp2_with fail
  go_region_law (refine step_append_room rfl (.tmp 22) (.tmp 25) 33 rfl 43 i0 9 Tryz.underlying33 hi0 hz1 g 0 i cap (by simp [Act.eval, Act.put]) A (n - j) (cap - j) news (by simp [Act.eval, Act.put]) s1.out hsrc.out s2.out (by omega) s3.out ?_; rw [← hW.out])
  go_wp2
  go_ret
  exact ⟨rfl, HF.out⟩
theorem delete_walk (g n cap i base : Nat) (l : List TV) (w : World) (hl : l.length = n) (hi : i < n) (hm : n ≤ 1000000) (ho : w.ownsRow base 43 9 (.slice (some ⟨g, 0, none⟩) n cap) n (tcs l)) :
    Calls Tryz.prog 45 #[.slice (some ⟨g, 0, none⟩) n cap, .int .i64 i, .int .i64 ((i : Int) + 1)] w fun e w' => e = .returned (.slice (some ⟨g, 0, none⟩) (n - 1) cap) ∧ Ts w' (.slice (some ⟨g, 0, none⟩) (n - 1) cap) (l.take i ++ l.drop (i + 1)) ∧ Below base w w' := by
  have := delete_at g n cap i (i + 1) base l w hl hi rfl hm ho
  exact this
end Go.Proofs.YtbnbaokamccmjaaGreatDoor

/- law of chapter 12: MeshCloses: the walk. -/
set_option linter.unusedVariables false
set_option linter.unusedSimpArgs false
namespace Go.Proofs.YtbnbaokamccmjaaGreatDoor
open Go Go.RowKit

/-- A solid that Check lets pass. -/
def CK (w : World) (v : Value) : Prop := ∃ lp, Ts w v lp ∧ chkC lp = 0 ∧ tle lp 40000000
theorem ck_walk {v : Value} {w : World} (hB : Bw w) (h : CK w v) :
    Calls Tryz.prog 32 #[v] w fun e w' => e = .returned (.int .i64 0) ∧ Below w.heap.size w w' := by
  obtain ⟨lp, h1, h2, h3⟩ := h
  have := check_walk v lp w hB h1 h3
  rwa [h2] at this
theorem CK.below {w w1 : World} {v : Value} (h : CK w v) (g : Below w.heap.size w w1) : CK w1 v := by
  obtain ⟨lp, h1, h2, h3⟩ := h
  exact ⟨lp, h1.below g, h2, h3⟩
theorem ts_at {w : World} {A : Option Addr} {n cap k : Nat} {l : List TV} {t : TV} (h : Ts w (.slice A n cap) l) (hg : l[k]? = some t) :
    ∃ b off, A = some ⟨b, off, none⟩ ∧ w.cell? ⟨b, off + k * 9, none⟩ = some (.string t.a.x) ∧ w.cell? ⟨b, off + k * 9 + 1, none⟩ = some (.string t.a.y) ∧ w.cell? ⟨b, off + k * 9 + 2, none⟩ = some (.string t.a.z) ∧
    w.cell? ⟨b, off + k * 9 + 3, none⟩ = some (.string t.b.x) ∧ w.cell? ⟨b, off + k * 9 + 4, none⟩ = some (.string t.b.y) ∧ w.cell? ⟨b, off + k * 9 + 5, none⟩ = some (.string t.b.z) ∧
    w.cell? ⟨b, off + k * 9 + 6, none⟩ = some (.string t.c.x) ∧ w.cell? ⟨b, off + k * 9 + 7, none⟩ = some (.string t.c.y) ∧ w.cell? ⟨b, off + k * 9 + 8, none⟩ = some (.string t.c.z) := by
  obtain ⟨A', cap', hv, _, _, hcell⟩ := h.open
  cases hv
  obtain ⟨b, off, hA, hcl⟩ := hcell (by have := (List.getElem?_eq_some_iff.1 hg).1; omega)
  exact ⟨b, off, hA, ts_nine (hcl k t hg)⟩

set_option maxHeartbeats 4000000 in
set_option maxRecDepth 100000 in
theorem closes_out1 (A A2 A3 : Option Addr) (n cap m cap2 r cap3 : Nat) (l lt : List TV) (lv : List SV) (x y z : ByteArray) (kb : Nat) (w : World) (hB : Bw w) (hv : Ts w (.slice A n cap) l) (hv2 : Ts w (.slice A2 m cap2) lt) (hv3 : Vs w (.slice A3 r cap3) lv)
    (h20 : ∀ w, Ts w (.slice A n cap) l → Calls Tryz.prog 20 #[.slice A n cap] w fun e w' => e = .returned (.bool false) ∧ Below w.heap.size w w') :
    Calls Tryz.prog 9 #[.slice A n cap, .slice A2 m cap2, .slice A3 r cap3, .agg #[.string x, .string y, .string z], .int .u8 kb] w fun e w' => e = .returned (.bool true) ∧ Below w.heap.size w w' := by
  have HV := Lib.hid hv
  have HT := Lib.hid hv2
  have HL := Lib.hid hv3
  clear hv hv2 hv3
  have H0 := Lib.hid (fun w hB => awake_walk w hB)
  have H20 := Lib.hid h20
  clear h20
  go_enter Tryz.func9, Tryz.ntmps9
  go_wp2_with fail
  refine (H0.out _ (hB.below (by repeat (first | exact br _ | assumption | refine ba ?_ | refine bd ?_ | refine below_drewN ?_ _ | refine bs ?_ (by (try simp) <;> omega))))).mono ?_
  rintro e w1 ⟨rfl, g1⟩
  have S1 : Below w.heap.size w w1 := bn (by repeat (first | exact br _ | assumption | refine ba ?_ | refine bd ?_ | refine below_drewN ?_ _ | refine bs ?_ (by (try simp) <;> omega))) g1
  replace HV := Lib.hid (HV.out.below S1)
  replace HT := Lib.hid (HT.out.below S1)
  replace HL := Lib.hid (HL.out.below S1)
  have c1_v_0 : w1.cell? ⟨w.heap.size, 0, none⟩ = some (.string x) := bc g1 (by first | with_reducible assumption | go_simp)
  have c1_v_1 : w1.cell? ⟨w.heap.size, 1, none⟩ = some (.string y) := bc g1 (by first | with_reducible assumption | go_simp)
  have c1_v_2 : w1.cell? ⟨w.heap.size, 2, none⟩ = some (.string z) := bc g1 (by first | with_reducible assumption | go_simp)
  have z1_v : w.heap.size < w1.heap.size := World.block_lt_of_cell? _ _ c1_v_0
  have B1 : Below w.heap.size w w1 := S1
  clear g1
  go_wp2_with fail
  refine (H20.out _ (HV.out.below (by repeat (first | exact br _ | assumption | refine ba ?_ | refine bd ?_ | refine below_drewN ?_ _ | refine bs ?_ (by (try simp) <;> omega))))).mono ?_
  rintro e w2 ⟨rfl, g2⟩
  have S2 : Below w1.heap.size w1 w2 := bn (by repeat (first | exact br _ | assumption | refine ba ?_ | refine bd ?_ | refine below_drewN ?_ _ | refine bs ?_ (by (try simp) <;> omega))) g2
  replace HV := Lib.hid (HV.out.below S2)
  replace HT := Lib.hid (HT.out.below S2)
  replace HL := Lib.hid (HL.out.below S2)
  have c2_v_0 : w2.cell? ⟨w.heap.size, 0, none⟩ = some (.string x) := bc g2 (by first | with_reducible assumption | go_simp)
  have c2_v_1 : w2.cell? ⟨w.heap.size, 1, none⟩ = some (.string y) := bc g2 (by first | with_reducible assumption | go_simp)
  have c2_v_2 : w2.cell? ⟨w.heap.size, 2, none⟩ = some (.string z) := bc g2 (by first | with_reducible assumption | go_simp)
  have z2_v : w.heap.size < w2.heap.size := World.block_lt_of_cell? _ _ c2_v_0
  have B2 : Below w.heap.size w w2 := bn B1 S2
  clear g2 S2
  go_wp2_with fail
  refine (H0.out _ (hB.below (by repeat (first | exact br _ | assumption | refine ba ?_ | refine bd ?_ | refine below_drewN ?_ _ | refine bs ?_ (by (try simp) <;> omega))))).mono ?_
  rintro e w3 ⟨rfl, g3⟩
  have S3 : Below w2.heap.size w2 w3 := bn (by repeat (first | exact br _ | assumption | refine ba ?_ | refine bd ?_ | refine below_drewN ?_ _ | refine bs ?_ (by (try simp) <;> omega))) g3
  replace HV := Lib.hid (HV.out.below S3)
  replace HT := Lib.hid (HT.out.below S3)
  replace HL := Lib.hid (HL.out.below S3)
  have c3_v_0 : w3.cell? ⟨w.heap.size, 0, none⟩ = some (.string x) := bc g3 (by first | with_reducible assumption | go_simp)
  have c3_v_1 : w3.cell? ⟨w.heap.size, 1, none⟩ = some (.string y) := bc g3 (by first | with_reducible assumption | go_simp)
  have c3_v_2 : w3.cell? ⟨w.heap.size, 2, none⟩ = some (.string z) := bc g3 (by first | with_reducible assumption | go_simp)
  have z3_v : w.heap.size < w3.heap.size := World.block_lt_of_cell? _ _ c3_v_0
  have B3 : Below w.heap.size w w3 := bn B2 S3
  clear g3 S3
  go_wp2
  go_ret
  exact ⟨rfl, (by repeat (first | exact br _ | assumption | refine ba ?_ | refine bd ?_ | refine below_drewN ?_ _ | refine bs ?_ (by (try simp) <;> omega)))⟩

set_option maxHeartbeats 4000000 in
set_option maxRecDepth 100000 in
theorem closes_out2 (A A2 A3 : Option Addr) (n cap m cap2 r cap3 : Nat) (l lt : List TV) (lv : List SV) (x y z : ByteArray) (kb : Nat) (w : World) (hB : Bw w) (hv : Ts w (.slice A n cap) l) (hv2 : Ts w (.slice A2 m cap2) lt) (hv3 : Vs w (.slice A3 r cap3) lv)
    (h20 : ∀ w, Ts w (.slice A n cap) l → Calls Tryz.prog 20 #[.slice A n cap] w fun e w' => e = .returned (.bool true) ∧ Below w.heap.size w w')
    (h21 : ∀ w, Ts w (.slice A2 m cap2) lt → Calls Tryz.prog 20 #[.slice A2 m cap2] w fun e w' => e = .returned (.bool false) ∧ Below w.heap.size w w') :
    Calls Tryz.prog 9 #[.slice A n cap, .slice A2 m cap2, .slice A3 r cap3, .agg #[.string x, .string y, .string z], .int .u8 kb] w fun e w' => e = .returned (.bool true) ∧ Below w.heap.size w w' := by
  have HV := Lib.hid hv
  have HT := Lib.hid hv2
  have HL := Lib.hid hv3
  clear hv hv2 hv3
  have H0 := Lib.hid (fun w hB => awake_walk w hB)
  have H20 := Lib.hid h20
  clear h20
  have H21 := Lib.hid h21
  clear h21
  go_enter Tryz.func9, Tryz.ntmps9
  go_wp2_with fail
  refine (H0.out _ (hB.below (by repeat (first | exact br _ | assumption | refine ba ?_ | refine bd ?_ | refine below_drewN ?_ _ | refine bs ?_ (by (try simp) <;> omega))))).mono ?_
  rintro e w1 ⟨rfl, g1⟩
  have S1 : Below w.heap.size w w1 := bn (by repeat (first | exact br _ | assumption | refine ba ?_ | refine bd ?_ | refine below_drewN ?_ _ | refine bs ?_ (by (try simp) <;> omega))) g1
  replace HV := Lib.hid (HV.out.below S1)
  replace HT := Lib.hid (HT.out.below S1)
  replace HL := Lib.hid (HL.out.below S1)
  have c1_v_0 : w1.cell? ⟨w.heap.size, 0, none⟩ = some (.string x) := bc g1 (by first | with_reducible assumption | go_simp)
  have c1_v_1 : w1.cell? ⟨w.heap.size, 1, none⟩ = some (.string y) := bc g1 (by first | with_reducible assumption | go_simp)
  have c1_v_2 : w1.cell? ⟨w.heap.size, 2, none⟩ = some (.string z) := bc g1 (by first | with_reducible assumption | go_simp)
  have z1_v : w.heap.size < w1.heap.size := World.block_lt_of_cell? _ _ c1_v_0
  have B1 : Below w.heap.size w w1 := S1
  clear g1
  go_wp2_with fail
  refine (H20.out _ (HV.out.below (by repeat (first | exact br _ | assumption | refine ba ?_ | refine bd ?_ | refine below_drewN ?_ _ | refine bs ?_ (by (try simp) <;> omega))))).mono ?_
  rintro e w2 ⟨rfl, g2⟩
  have S2 : Below w1.heap.size w1 w2 := bn (by repeat (first | exact br _ | assumption | refine ba ?_ | refine bd ?_ | refine below_drewN ?_ _ | refine bs ?_ (by (try simp) <;> omega))) g2
  replace HV := Lib.hid (HV.out.below S2)
  replace HT := Lib.hid (HT.out.below S2)
  replace HL := Lib.hid (HL.out.below S2)
  have c2_v_0 : w2.cell? ⟨w.heap.size, 0, none⟩ = some (.string x) := bc g2 (by first | with_reducible assumption | go_simp)
  have c2_v_1 : w2.cell? ⟨w.heap.size, 1, none⟩ = some (.string y) := bc g2 (by first | with_reducible assumption | go_simp)
  have c2_v_2 : w2.cell? ⟨w.heap.size, 2, none⟩ = some (.string z) := bc g2 (by first | with_reducible assumption | go_simp)
  have z2_v : w.heap.size < w2.heap.size := World.block_lt_of_cell? _ _ c2_v_0
  have B2 : Below w.heap.size w w2 := bn B1 S2
  clear g2 S2
  go_wp2_with fail
  refine (H21.out _ (HT.out.below (by repeat (first | exact br _ | assumption | refine ba ?_ | refine bd ?_ | refine below_drewN ?_ _ | refine bs ?_ (by (try simp) <;> omega))))).mono ?_
  rintro e w3 ⟨rfl, g3⟩
  have S3 : Below w2.heap.size w2 w3 := bn (by repeat (first | exact br _ | assumption | refine ba ?_ | refine bd ?_ | refine below_drewN ?_ _ | refine bs ?_ (by (try simp) <;> omega))) g3
  replace HV := Lib.hid (HV.out.below S3)
  replace HT := Lib.hid (HT.out.below S3)
  replace HL := Lib.hid (HL.out.below S3)
  have c3_v_0 : w3.cell? ⟨w.heap.size, 0, none⟩ = some (.string x) := bc g3 (by first | with_reducible assumption | go_simp)
  have c3_v_1 : w3.cell? ⟨w.heap.size, 1, none⟩ = some (.string y) := bc g3 (by first | with_reducible assumption | go_simp)
  have c3_v_2 : w3.cell? ⟨w.heap.size, 2, none⟩ = some (.string z) := bc g3 (by first | with_reducible assumption | go_simp)
  have z3_v : w.heap.size < w3.heap.size := World.block_lt_of_cell? _ _ c3_v_0
  have B3 : Below w.heap.size w w3 := bn B2 S3
  clear g3 S3
  go_wp2_with fail
  refine (H0.out _ (hB.below (by repeat (first | exact br _ | assumption | refine ba ?_ | refine bd ?_ | refine below_drewN ?_ _ | refine bs ?_ (by (try simp) <;> omega))))).mono ?_
  rintro e w4 ⟨rfl, g4⟩
  have S4 : Below w3.heap.size w3 w4 := bn (by repeat (first | exact br _ | assumption | refine ba ?_ | refine bd ?_ | refine below_drewN ?_ _ | refine bs ?_ (by (try simp) <;> omega))) g4
  replace HV := Lib.hid (HV.out.below S4)
  replace HT := Lib.hid (HT.out.below S4)
  replace HL := Lib.hid (HL.out.below S4)
  have c4_v_0 : w4.cell? ⟨w.heap.size, 0, none⟩ = some (.string x) := bc g4 (by first | with_reducible assumption | go_simp)
  have c4_v_1 : w4.cell? ⟨w.heap.size, 1, none⟩ = some (.string y) := bc g4 (by first | with_reducible assumption | go_simp)
  have c4_v_2 : w4.cell? ⟨w.heap.size, 2, none⟩ = some (.string z) := bc g4 (by first | with_reducible assumption | go_simp)
  have z4_v : w.heap.size < w4.heap.size := World.block_lt_of_cell? _ _ c4_v_0
  have B4 : Below w.heap.size w w4 := bn B3 S4
  clear g4 S4
  go_wp2
  go_ret
  exact ⟨rfl, (by repeat (first | exact br _ | assumption | refine ba ?_ | refine bd ?_ | refine below_drewN ?_ _ | refine bs ?_ (by (try simp) <;> omega)))⟩

set_option maxHeartbeats 4000000 in
set_option maxRecDepth 100000 in
theorem closes_out3 (A A2 A3 : Option Addr) (n cap m cap2 r cap3 : Nat) (l lt : List TV) (lv : List SV) (x y z : ByteArray) (kb : Nat) (w : World) (hB : Bw w) (hv : Ts w (.slice A n cap) l) (hv2 : Ts w (.slice A2 m cap2) lt) (hv3 : Vs w (.slice A3 r cap3) lv)
    (h20 : ∀ w, Ts w (.slice A n cap) l → Calls Tryz.prog 20 #[.slice A n cap] w fun e w' => e = .returned (.bool true) ∧ Below w.heap.size w w')
    (h21 : ∀ w, Ts w (.slice A2 m cap2) lt → Calls Tryz.prog 20 #[.slice A2 m cap2] w fun e w' => e = .returned (.bool true) ∧ Below w.heap.size w w')
    (h10 : ∀ w, Vs w (.slice A3 r cap3) lv → Calls Tryz.prog 11 #[.slice A3 r cap3] w fun e w' => e = .returned (.bool false) ∧ Below w.heap.size w w') :
    Calls Tryz.prog 9 #[.slice A n cap, .slice A2 m cap2, .slice A3 r cap3, .agg #[.string x, .string y, .string z], .int .u8 kb] w fun e w' => e = .returned (.bool true) ∧ Below w.heap.size w w' := by
  have HV := Lib.hid hv
  have HT := Lib.hid hv2
  have HL := Lib.hid hv3
  clear hv hv2 hv3
  have H0 := Lib.hid (fun w hB => awake_walk w hB)
  have H20 := Lib.hid h20
  clear h20
  have H21 := Lib.hid h21
  clear h21
  have H10 := Lib.hid h10
  clear h10
  go_enter Tryz.func9, Tryz.ntmps9
  go_wp2_with fail
  refine (H0.out _ (hB.below (by repeat (first | exact br _ | assumption | refine ba ?_ | refine bd ?_ | refine below_drewN ?_ _ | refine bs ?_ (by (try simp) <;> omega))))).mono ?_
  rintro e w1 ⟨rfl, g1⟩
  have S1 : Below w.heap.size w w1 := bn (by repeat (first | exact br _ | assumption | refine ba ?_ | refine bd ?_ | refine below_drewN ?_ _ | refine bs ?_ (by (try simp) <;> omega))) g1
  replace HV := Lib.hid (HV.out.below S1)
  replace HT := Lib.hid (HT.out.below S1)
  replace HL := Lib.hid (HL.out.below S1)
  have c1_v_0 : w1.cell? ⟨w.heap.size, 0, none⟩ = some (.string x) := bc g1 (by first | with_reducible assumption | go_simp)
  have c1_v_1 : w1.cell? ⟨w.heap.size, 1, none⟩ = some (.string y) := bc g1 (by first | with_reducible assumption | go_simp)
  have c1_v_2 : w1.cell? ⟨w.heap.size, 2, none⟩ = some (.string z) := bc g1 (by first | with_reducible assumption | go_simp)
  have z1_v : w.heap.size < w1.heap.size := World.block_lt_of_cell? _ _ c1_v_0
  have B1 : Below w.heap.size w w1 := S1
  clear g1
  go_wp2_with fail
  refine (H20.out _ (HV.out.below (by repeat (first | exact br _ | assumption | refine ba ?_ | refine bd ?_ | refine below_drewN ?_ _ | refine bs ?_ (by (try simp) <;> omega))))).mono ?_
  rintro e w2 ⟨rfl, g2⟩
  have S2 : Below w1.heap.size w1 w2 := bn (by repeat (first | exact br _ | assumption | refine ba ?_ | refine bd ?_ | refine below_drewN ?_ _ | refine bs ?_ (by (try simp) <;> omega))) g2
  replace HV := Lib.hid (HV.out.below S2)
  replace HT := Lib.hid (HT.out.below S2)
  replace HL := Lib.hid (HL.out.below S2)
  have c2_v_0 : w2.cell? ⟨w.heap.size, 0, none⟩ = some (.string x) := bc g2 (by first | with_reducible assumption | go_simp)
  have c2_v_1 : w2.cell? ⟨w.heap.size, 1, none⟩ = some (.string y) := bc g2 (by first | with_reducible assumption | go_simp)
  have c2_v_2 : w2.cell? ⟨w.heap.size, 2, none⟩ = some (.string z) := bc g2 (by first | with_reducible assumption | go_simp)
  have z2_v : w.heap.size < w2.heap.size := World.block_lt_of_cell? _ _ c2_v_0
  have B2 : Below w.heap.size w w2 := bn B1 S2
  clear g2 S2
  go_wp2_with fail
  refine (H21.out _ (HT.out.below (by repeat (first | exact br _ | assumption | refine ba ?_ | refine bd ?_ | refine below_drewN ?_ _ | refine bs ?_ (by (try simp) <;> omega))))).mono ?_
  rintro e w3 ⟨rfl, g3⟩
  have S3 : Below w2.heap.size w2 w3 := bn (by repeat (first | exact br _ | assumption | refine ba ?_ | refine bd ?_ | refine below_drewN ?_ _ | refine bs ?_ (by (try simp) <;> omega))) g3
  replace HV := Lib.hid (HV.out.below S3)
  replace HT := Lib.hid (HT.out.below S3)
  replace HL := Lib.hid (HL.out.below S3)
  have c3_v_0 : w3.cell? ⟨w.heap.size, 0, none⟩ = some (.string x) := bc g3 (by first | with_reducible assumption | go_simp)
  have c3_v_1 : w3.cell? ⟨w.heap.size, 1, none⟩ = some (.string y) := bc g3 (by first | with_reducible assumption | go_simp)
  have c3_v_2 : w3.cell? ⟨w.heap.size, 2, none⟩ = some (.string z) := bc g3 (by first | with_reducible assumption | go_simp)
  have z3_v : w.heap.size < w3.heap.size := World.block_lt_of_cell? _ _ c3_v_0
  have B3 : Below w.heap.size w w3 := bn B2 S3
  clear g3 S3
  go_wp2_with fail
  refine (H10.out _ (HL.out.below (by repeat (first | exact br _ | assumption | refine ba ?_ | refine bd ?_ | refine below_drewN ?_ _ | refine bs ?_ (by (try simp) <;> omega))))).mono ?_
  rintro e w4 ⟨rfl, g4⟩
  have S4 : Below w3.heap.size w3 w4 := bn (by repeat (first | exact br _ | assumption | refine ba ?_ | refine bd ?_ | refine below_drewN ?_ _ | refine bs ?_ (by (try simp) <;> omega))) g4
  replace HV := Lib.hid (HV.out.below S4)
  replace HT := Lib.hid (HT.out.below S4)
  replace HL := Lib.hid (HL.out.below S4)
  have c4_v_0 : w4.cell? ⟨w.heap.size, 0, none⟩ = some (.string x) := bc g4 (by first | with_reducible assumption | go_simp)
  have c4_v_1 : w4.cell? ⟨w.heap.size, 1, none⟩ = some (.string y) := bc g4 (by first | with_reducible assumption | go_simp)
  have c4_v_2 : w4.cell? ⟨w.heap.size, 2, none⟩ = some (.string z) := bc g4 (by first | with_reducible assumption | go_simp)
  have z4_v : w.heap.size < w4.heap.size := World.block_lt_of_cell? _ _ c4_v_0
  have B4 : Below w.heap.size w w4 := bn B3 S4
  clear g4 S4
  go_wp2_with fail
  refine (H0.out _ (hB.below (by repeat (first | exact br _ | assumption | refine ba ?_ | refine bd ?_ | refine below_drewN ?_ _ | refine bs ?_ (by (try simp) <;> omega))))).mono ?_
  rintro e w5 ⟨rfl, g5⟩
  have S5 : Below w4.heap.size w4 w5 := bn (by repeat (first | exact br _ | assumption | refine ba ?_ | refine bd ?_ | refine below_drewN ?_ _ | refine bs ?_ (by (try simp) <;> omega))) g5
  replace HV := Lib.hid (HV.out.below S5)
  replace HT := Lib.hid (HT.out.below S5)
  replace HL := Lib.hid (HL.out.below S5)
  have c5_v_0 : w5.cell? ⟨w.heap.size, 0, none⟩ = some (.string x) := bc g5 (by first | with_reducible assumption | go_simp)
  have c5_v_1 : w5.cell? ⟨w.heap.size, 1, none⟩ = some (.string y) := bc g5 (by first | with_reducible assumption | go_simp)
  have c5_v_2 : w5.cell? ⟨w.heap.size, 2, none⟩ = some (.string z) := bc g5 (by first | with_reducible assumption | go_simp)
  have z5_v : w.heap.size < w5.heap.size := World.block_lt_of_cell? _ _ c5_v_0
  have B5 : Below w.heap.size w w5 := bn B4 S5
  clear g5 S5
  go_wp2
  go_ret
  exact ⟨rfl, (by repeat (first | exact br _ | assumption | refine ba ?_ | refine bd ?_ | refine below_drewN ?_ _ | refine bs ?_ (by (try simp) <;> omega)))⟩

set_option maxHeartbeats 4000000 in
set_option maxRecDepth 100000 in
theorem closes_out4 (A A2 A3 : Option Addr) (n cap m cap2 r cap3 : Nat) (l lt : List TV) (lv : List SV) (x y z : ByteArray) (kb : Nat) (w : World) (hB : Bw w) (hv : Ts w (.slice A n cap) l) (hv2 : Ts w (.slice A2 m cap2) lt) (hv3 : Vs w (.slice A3 r cap3) lv)
    (h20 : ∀ w, Ts w (.slice A n cap) l → Calls Tryz.prog 20 #[.slice A n cap] w fun e w' => e = .returned (.bool true) ∧ Below w.heap.size w w')
    (h21 : ∀ w, Ts w (.slice A2 m cap2) lt → Calls Tryz.prog 20 #[.slice A2 m cap2] w fun e w' => e = .returned (.bool true) ∧ Below w.heap.size w w')
    (h10 : ∀ w, Vs w (.slice A3 r cap3) lv → Calls Tryz.prog 11 #[.slice A3 r cap3] w fun e w' => e = .returned (.bool true) ∧ Below w.heap.size w w')
    (hr : (8 : Int) < (r : Int)) :
    Calls Tryz.prog 9 #[.slice A n cap, .slice A2 m cap2, .slice A3 r cap3, .agg #[.string x, .string y, .string z], .int .u8 kb] w fun e w' => e = .returned (.bool true) ∧ Below w.heap.size w w' := by
  have HV := Lib.hid hv
  have HT := Lib.hid hv2
  have HL := Lib.hid hv3
  clear hv hv2 hv3
  have H0 := Lib.hid (fun w hB => awake_walk w hB)
  have H20 := Lib.hid h20
  clear h20
  have H21 := Lib.hid h21
  clear h21
  have H10 := Lib.hid h10
  clear h10
  go_enter Tryz.func9, Tryz.ntmps9
  go_wp2_with fail
  refine (H0.out _ (hB.below (by repeat (first | exact br _ | assumption | refine ba ?_ | refine bd ?_ | refine below_drewN ?_ _ | refine bs ?_ (by (try simp) <;> omega))))).mono ?_
  rintro e w1 ⟨rfl, g1⟩
  have S1 : Below w.heap.size w w1 := bn (by repeat (first | exact br _ | assumption | refine ba ?_ | refine bd ?_ | refine below_drewN ?_ _ | refine bs ?_ (by (try simp) <;> omega))) g1
  replace HV := Lib.hid (HV.out.below S1)
  replace HT := Lib.hid (HT.out.below S1)
  replace HL := Lib.hid (HL.out.below S1)
  have c1_v_0 : w1.cell? ⟨w.heap.size, 0, none⟩ = some (.string x) := bc g1 (by first | with_reducible assumption | go_simp)
  have c1_v_1 : w1.cell? ⟨w.heap.size, 1, none⟩ = some (.string y) := bc g1 (by first | with_reducible assumption | go_simp)
  have c1_v_2 : w1.cell? ⟨w.heap.size, 2, none⟩ = some (.string z) := bc g1 (by first | with_reducible assumption | go_simp)
  have z1_v : w.heap.size < w1.heap.size := World.block_lt_of_cell? _ _ c1_v_0
  have B1 : Below w.heap.size w w1 := S1
  clear g1
  go_wp2_with fail
  refine (H20.out _ (HV.out.below (by repeat (first | exact br _ | assumption | refine ba ?_ | refine bd ?_ | refine below_drewN ?_ _ | refine bs ?_ (by (try simp) <;> omega))))).mono ?_
  rintro e w2 ⟨rfl, g2⟩
  have S2 : Below w1.heap.size w1 w2 := bn (by repeat (first | exact br _ | assumption | refine ba ?_ | refine bd ?_ | refine below_drewN ?_ _ | refine bs ?_ (by (try simp) <;> omega))) g2
  replace HV := Lib.hid (HV.out.below S2)
  replace HT := Lib.hid (HT.out.below S2)
  replace HL := Lib.hid (HL.out.below S2)
  have c2_v_0 : w2.cell? ⟨w.heap.size, 0, none⟩ = some (.string x) := bc g2 (by first | with_reducible assumption | go_simp)
  have c2_v_1 : w2.cell? ⟨w.heap.size, 1, none⟩ = some (.string y) := bc g2 (by first | with_reducible assumption | go_simp)
  have c2_v_2 : w2.cell? ⟨w.heap.size, 2, none⟩ = some (.string z) := bc g2 (by first | with_reducible assumption | go_simp)
  have z2_v : w.heap.size < w2.heap.size := World.block_lt_of_cell? _ _ c2_v_0
  have B2 : Below w.heap.size w w2 := bn B1 S2
  clear g2 S2
  go_wp2_with fail
  refine (H21.out _ (HT.out.below (by repeat (first | exact br _ | assumption | refine ba ?_ | refine bd ?_ | refine below_drewN ?_ _ | refine bs ?_ (by (try simp) <;> omega))))).mono ?_
  rintro e w3 ⟨rfl, g3⟩
  have S3 : Below w2.heap.size w2 w3 := bn (by repeat (first | exact br _ | assumption | refine ba ?_ | refine bd ?_ | refine below_drewN ?_ _ | refine bs ?_ (by (try simp) <;> omega))) g3
  replace HV := Lib.hid (HV.out.below S3)
  replace HT := Lib.hid (HT.out.below S3)
  replace HL := Lib.hid (HL.out.below S3)
  have c3_v_0 : w3.cell? ⟨w.heap.size, 0, none⟩ = some (.string x) := bc g3 (by first | with_reducible assumption | go_simp)
  have c3_v_1 : w3.cell? ⟨w.heap.size, 1, none⟩ = some (.string y) := bc g3 (by first | with_reducible assumption | go_simp)
  have c3_v_2 : w3.cell? ⟨w.heap.size, 2, none⟩ = some (.string z) := bc g3 (by first | with_reducible assumption | go_simp)
  have z3_v : w.heap.size < w3.heap.size := World.block_lt_of_cell? _ _ c3_v_0
  have B3 : Below w.heap.size w w3 := bn B2 S3
  clear g3 S3
  go_wp2_with fail
  refine (H10.out _ (HL.out.below (by repeat (first | exact br _ | assumption | refine ba ?_ | refine bd ?_ | refine below_drewN ?_ _ | refine bs ?_ (by (try simp) <;> omega))))).mono ?_
  rintro e w4 ⟨rfl, g4⟩
  have S4 : Below w3.heap.size w3 w4 := bn (by repeat (first | exact br _ | assumption | refine ba ?_ | refine bd ?_ | refine below_drewN ?_ _ | refine bs ?_ (by (try simp) <;> omega))) g4
  replace HV := Lib.hid (HV.out.below S4)
  replace HT := Lib.hid (HT.out.below S4)
  replace HL := Lib.hid (HL.out.below S4)
  have c4_v_0 : w4.cell? ⟨w.heap.size, 0, none⟩ = some (.string x) := bc g4 (by first | with_reducible assumption | go_simp)
  have c4_v_1 : w4.cell? ⟨w.heap.size, 1, none⟩ = some (.string y) := bc g4 (by first | with_reducible assumption | go_simp)
  have c4_v_2 : w4.cell? ⟨w.heap.size, 2, none⟩ = some (.string z) := bc g4 (by first | with_reducible assumption | go_simp)
  have z4_v : w.heap.size < w4.heap.size := World.block_lt_of_cell? _ _ c4_v_0
  have B4 : Below w.heap.size w w4 := bn B3 S4
  clear g4 S4
  go_wp2_with fail
  refine (H0.out _ (hB.below (by repeat (first | exact br _ | assumption | refine ba ?_ | refine bd ?_ | refine below_drewN ?_ _ | refine bs ?_ (by (try simp) <;> omega))))).mono ?_
  rintro e w5 ⟨rfl, g5⟩
  have S5 : Below w4.heap.size w4 w5 := bn (by repeat (first | exact br _ | assumption | refine ba ?_ | refine bd ?_ | refine below_drewN ?_ _ | refine bs ?_ (by (try simp) <;> omega))) g5
  replace HV := Lib.hid (HV.out.below S5)
  replace HT := Lib.hid (HT.out.below S5)
  replace HL := Lib.hid (HL.out.below S5)
  have c5_v_0 : w5.cell? ⟨w.heap.size, 0, none⟩ = some (.string x) := bc g5 (by first | with_reducible assumption | go_simp)
  have c5_v_1 : w5.cell? ⟨w.heap.size, 1, none⟩ = some (.string y) := bc g5 (by first | with_reducible assumption | go_simp)
  have c5_v_2 : w5.cell? ⟨w.heap.size, 2, none⟩ = some (.string z) := bc g5 (by first | with_reducible assumption | go_simp)
  have z5_v : w.heap.size < w5.heap.size := World.block_lt_of_cell? _ _ c5_v_0
  have B5 : Below w.heap.size w w5 := bn B4 S5
  clear g5 S5
  go_wp2
  go_ret
  exact ⟨rfl, (by repeat (first | exact br _ | assumption | refine ba ?_ | refine bd ?_ | refine below_drewN ?_ _ | refine bs ?_ (by (try simp) <;> omega)))⟩

set_option maxHeartbeats 4000000 in
set_option maxRecDepth 100000 in
theorem closes_out5 (A A2 A3 : Option Addr) (n cap m cap2 r cap3 : Nat) (l lt : List TV) (lv : List SV) (x y z : ByteArray) (kb : Nat) (w : World) (hB : Bw w) (hv : Ts w (.slice A n cap) l) (hv2 : Ts w (.slice A2 m cap2) lt) (hv3 : Vs w (.slice A3 r cap3) lv)
    (h20 : ∀ w, Ts w (.slice A n cap) l → Calls Tryz.prog 20 #[.slice A n cap] w fun e w' => e = .returned (.bool true) ∧ Below w.heap.size w w')
    (h21 : ∀ w, Ts w (.slice A2 m cap2) lt → Calls Tryz.prog 20 #[.slice A2 m cap2] w fun e w' => e = .returned (.bool true) ∧ Below w.heap.size w w')
    (h10 : ∀ w, Vs w (.slice A3 r cap3) lv → Calls Tryz.prog 11 #[.slice A3 r cap3] w fun e w' => e = .returned (.bool true) ∧ Below w.heap.size w w')
    (hr : (r : Int) ≤ 8)
    (h11 : ∀ p w, Bk w p [.string x, .string y, .string z] → Calls Tryz.prog 11 #[.slice (some ⟨p, 0, none⟩) 1 1] w fun e w' => e = .returned (.bool false) ∧ Below w.heap.size w w') :
    Calls Tryz.prog 9 #[.slice A n cap, .slice A2 m cap2, .slice A3 r cap3, .agg #[.string x, .string y, .string z], .int .u8 kb] w fun e w' => e = .returned (.bool true) ∧ Below w.heap.size w w' := by
  have HV := Lib.hid hv
  have HT := Lib.hid hv2
  have HL := Lib.hid hv3
  clear hv hv2 hv3
  have H0 := Lib.hid (fun w hB => awake_walk w hB)
  have H20 := Lib.hid h20
  clear h20
  have H21 := Lib.hid h21
  clear h21
  have H10 := Lib.hid h10
  clear h10
  have H11 := Lib.hid h11
  clear h11
  go_enter Tryz.func9, Tryz.ntmps9
  go_wp2_with fail
  refine (H0.out _ (hB.below (by repeat (first | exact br _ | assumption | refine ba ?_ | refine bd ?_ | refine below_drewN ?_ _ | refine bs ?_ (by (try simp) <;> omega))))).mono ?_
  rintro e w1 ⟨rfl, g1⟩
  have S1 : Below w.heap.size w w1 := bn (by repeat (first | exact br _ | assumption | refine ba ?_ | refine bd ?_ | refine below_drewN ?_ _ | refine bs ?_ (by (try simp) <;> omega))) g1
  replace HV := Lib.hid (HV.out.below S1)
  replace HT := Lib.hid (HT.out.below S1)
  replace HL := Lib.hid (HL.out.below S1)
  have c1_v_0 : w1.cell? ⟨w.heap.size, 0, none⟩ = some (.string x) := bc g1 (by first | with_reducible assumption | go_simp)
  have c1_v_1 : w1.cell? ⟨w.heap.size, 1, none⟩ = some (.string y) := bc g1 (by first | with_reducible assumption | go_simp)
  have c1_v_2 : w1.cell? ⟨w.heap.size, 2, none⟩ = some (.string z) := bc g1 (by first | with_reducible assumption | go_simp)
  have z1_v : w.heap.size < w1.heap.size := World.block_lt_of_cell? _ _ c1_v_0
  have B1 : Below w.heap.size w w1 := S1
  clear g1
  go_wp2_with fail
  refine (H20.out _ (HV.out.below (by repeat (first | exact br _ | assumption | refine ba ?_ | refine bd ?_ | refine below_drewN ?_ _ | refine bs ?_ (by (try simp) <;> omega))))).mono ?_
  rintro e w2 ⟨rfl, g2⟩
  have S2 : Below w1.heap.size w1 w2 := bn (by repeat (first | exact br _ | assumption | refine ba ?_ | refine bd ?_ | refine below_drewN ?_ _ | refine bs ?_ (by (try simp) <;> omega))) g2
  replace HV := Lib.hid (HV.out.below S2)
  replace HT := Lib.hid (HT.out.below S2)
  replace HL := Lib.hid (HL.out.below S2)
  have c2_v_0 : w2.cell? ⟨w.heap.size, 0, none⟩ = some (.string x) := bc g2 (by first | with_reducible assumption | go_simp)
  have c2_v_1 : w2.cell? ⟨w.heap.size, 1, none⟩ = some (.string y) := bc g2 (by first | with_reducible assumption | go_simp)
  have c2_v_2 : w2.cell? ⟨w.heap.size, 2, none⟩ = some (.string z) := bc g2 (by first | with_reducible assumption | go_simp)
  have z2_v : w.heap.size < w2.heap.size := World.block_lt_of_cell? _ _ c2_v_0
  have B2 : Below w.heap.size w w2 := bn B1 S2
  clear g2 S2
  go_wp2_with fail
  refine (H21.out _ (HT.out.below (by repeat (first | exact br _ | assumption | refine ba ?_ | refine bd ?_ | refine below_drewN ?_ _ | refine bs ?_ (by (try simp) <;> omega))))).mono ?_
  rintro e w3 ⟨rfl, g3⟩
  have S3 : Below w2.heap.size w2 w3 := bn (by repeat (first | exact br _ | assumption | refine ba ?_ | refine bd ?_ | refine below_drewN ?_ _ | refine bs ?_ (by (try simp) <;> omega))) g3
  replace HV := Lib.hid (HV.out.below S3)
  replace HT := Lib.hid (HT.out.below S3)
  replace HL := Lib.hid (HL.out.below S3)
  have c3_v_0 : w3.cell? ⟨w.heap.size, 0, none⟩ = some (.string x) := bc g3 (by first | with_reducible assumption | go_simp)
  have c3_v_1 : w3.cell? ⟨w.heap.size, 1, none⟩ = some (.string y) := bc g3 (by first | with_reducible assumption | go_simp)
  have c3_v_2 : w3.cell? ⟨w.heap.size, 2, none⟩ = some (.string z) := bc g3 (by first | with_reducible assumption | go_simp)
  have z3_v : w.heap.size < w3.heap.size := World.block_lt_of_cell? _ _ c3_v_0
  have B3 : Below w.heap.size w w3 := bn B2 S3
  clear g3 S3
  go_wp2_with fail
  refine (H10.out _ (HL.out.below (by repeat (first | exact br _ | assumption | refine ba ?_ | refine bd ?_ | refine below_drewN ?_ _ | refine bs ?_ (by (try simp) <;> omega))))).mono ?_
  rintro e w4 ⟨rfl, g4⟩
  have S4 : Below w3.heap.size w3 w4 := bn (by repeat (first | exact br _ | assumption | refine ba ?_ | refine bd ?_ | refine below_drewN ?_ _ | refine bs ?_ (by (try simp) <;> omega))) g4
  replace HV := Lib.hid (HV.out.below S4)
  replace HT := Lib.hid (HT.out.below S4)
  replace HL := Lib.hid (HL.out.below S4)
  have c4_v_0 : w4.cell? ⟨w.heap.size, 0, none⟩ = some (.string x) := bc g4 (by first | with_reducible assumption | go_simp)
  have c4_v_1 : w4.cell? ⟨w.heap.size, 1, none⟩ = some (.string y) := bc g4 (by first | with_reducible assumption | go_simp)
  have c4_v_2 : w4.cell? ⟨w.heap.size, 2, none⟩ = some (.string z) := bc g4 (by first | with_reducible assumption | go_simp)
  have z4_v : w.heap.size < w4.heap.size := World.block_lt_of_cell? _ _ c4_v_0
  have B4 : Below w.heap.size w w4 := bn B3 S4
  clear g4 S4
  go_wp2_with fail
  refine (H11.out _ _ (bk_at rfl)).mono ?_
  rintro e w5 ⟨rfl, g5⟩
  have S5 : Below w4.heap.size w4 w5 := bn (by repeat (first | exact br _ | assumption | refine ba ?_ | refine bd ?_ | refine below_drewN ?_ _ | refine bs ?_ (by (try simp) <;> omega))) g5
  replace HV := Lib.hid (HV.out.below S5)
  replace HT := Lib.hid (HT.out.below S5)
  replace HL := Lib.hid (HL.out.below S5)
  have c5_v_0 : w5.cell? ⟨w.heap.size, 0, none⟩ = some (.string x) := bc g5 (by first | with_reducible assumption | go_simp)
  have c5_v_1 : w5.cell? ⟨w.heap.size, 1, none⟩ = some (.string y) := bc g5 (by first | with_reducible assumption | go_simp)
  have c5_v_2 : w5.cell? ⟨w.heap.size, 2, none⟩ = some (.string z) := bc g5 (by first | with_reducible assumption | go_simp)
  have z5_v : w.heap.size < w5.heap.size := World.block_lt_of_cell? _ _ c5_v_0
  have B5 : Below w.heap.size w w5 := bn B4 S5
  clear g5 S5
  go_wp2_with fail
  refine (H0.out _ (hB.below (by repeat (first | exact br _ | assumption | refine ba ?_ | refine bd ?_ | refine below_drewN ?_ _ | refine bs ?_ (by (try simp) <;> omega))))).mono ?_
  rintro e w6 ⟨rfl, g6⟩
  have S6 : Below w5.heap.size w5 w6 := bn (by repeat (first | exact br _ | assumption | refine ba ?_ | refine bd ?_ | refine below_drewN ?_ _ | refine bs ?_ (by (try simp) <;> omega))) g6
  replace HV := Lib.hid (HV.out.below S6)
  replace HT := Lib.hid (HT.out.below S6)
  replace HL := Lib.hid (HL.out.below S6)
  have c6_v_0 : w6.cell? ⟨w.heap.size, 0, none⟩ = some (.string x) := bc g6 (by first | with_reducible assumption | go_simp)
  have c6_v_1 : w6.cell? ⟨w.heap.size, 1, none⟩ = some (.string y) := bc g6 (by first | with_reducible assumption | go_simp)
  have c6_v_2 : w6.cell? ⟨w.heap.size, 2, none⟩ = some (.string z) := bc g6 (by first | with_reducible assumption | go_simp)
  have z6_v : w.heap.size < w6.heap.size := World.block_lt_of_cell? _ _ c6_v_0
  have B6 : Below w.heap.size w w6 := bn B5 S6
  clear g6 S6
  go_wp2
  go_ret
  exact ⟨rfl, (by repeat (first | exact br _ | assumption | refine ba ?_ | refine bd ?_ | refine below_drewN ?_ _ | refine bs ?_ (by (try simp) <;> omega)))⟩

set_option maxHeartbeats 4000000 in
set_option maxRecDepth 100000 in
theorem closes_out6 (A A2 A3 : Option Addr) (n cap m cap2 r cap3 : Nat) (l lt : List TV) (lv : List SV) (x y z : ByteArray) (kb : Nat) (w : World) (hB : Bw w) (hv : Ts w (.slice A n cap) l) (hv2 : Ts w (.slice A2 m cap2) lt) (hv3 : Vs w (.slice A3 r cap3) lv)
    (hr : (r : Int) ≤ 8)
    (h20 : ∀ w, Ts w (.slice A n cap) l → Calls Tryz.prog 20 #[.slice A n cap] w fun e w' => e = .returned (.bool true) ∧ Below w.heap.size w w')
    (h21 : ∀ w, Ts w (.slice A2 m cap2) lt → Calls Tryz.prog 20 #[.slice A2 m cap2] w fun e w' => e = .returned (.bool true) ∧ Below w.heap.size w w')
    (h10 : ∀ w, Vs w (.slice A3 r cap3) lv → Calls Tryz.prog 11 #[.slice A3 r cap3] w fun e w' => e = .returned (.bool true) ∧ Below w.heap.size w w')
    (h11 : ∀ p w, Bk w p [.string x, .string y, .string z] → Calls Tryz.prog 11 #[.slice (some ⟨p, 0, none⟩) 1 1] w fun e w' => e = .returned (.bool true) ∧ Below w.heap.size w w')
    (hcv : ∀ w, Vs w (.slice A3 r cap3) lv → Calls Tryz.prog 13 #[.slice A3 r cap3] w (Ret fun q w' => (∃ A c, q = .slice A r c ∧ Vs w' (.slice A r c) lv) ∧ Below w.heap.size w w'))
    (hp : ∀ A c w, Bw w → Vs w (.slice A r c) lv → Calls Tryz.prog 15 #[.slice A r c, .agg #[.string x, .string y, .string z]] w (Ret fun q w' => (∃ A n c z, q = .tuple #[.slice A n c, .int .i64 z] ∧ Hid (z = 0 → CK w' (.slice A n c))) ∧ Below w.heap.size w w'))
    (z5 : Int)
    (h32 : ∀ w, Bw w → Ts w (.slice A n cap) l → Calls Tryz.prog 32 #[.slice A n cap] w fun e w' => e = .returned (.int .i64 z5) ∧ Below w.heap.size w w')
    (h5 : (z5 != 0) = true) :
    Calls Tryz.prog 9 #[.slice A n cap, .slice A2 m cap2, .slice A3 r cap3, .agg #[.string x, .string y, .string z], .int .u8 kb] w fun e w' => e = .returned (.bool true) ∧ Below w.heap.size w w' := by
  have HV := Lib.hid hv
  have HT := Lib.hid hv2
  have HL := Lib.hid hv3
  clear hv hv2 hv3
  have H0 := Lib.hid (fun w hB => awake_walk w hB)
  have H20 := Lib.hid h20
  clear h20
  have H21 := Lib.hid h21
  clear h21
  have H10 := Lib.hid h10
  clear h10
  have H11 := Lib.hid h11
  clear h11
  have HCV := Lib.hid hcv
  clear hcv
  have HP := Lib.hid hp
  clear hp
  have H32 := Lib.hid h32
  clear h32
  go_enter Tryz.func9, Tryz.ntmps9
  go_wp2_with fail
  refine (H0.out _ (hB.below (by repeat (first | exact br _ | assumption | refine ba ?_ | refine bd ?_ | refine below_drewN ?_ _ | refine bs ?_ (by (try simp) <;> omega))))).mono ?_
  rintro e w1 ⟨rfl, g1⟩
  have S1 : Below w.heap.size w w1 := bn (by repeat (first | exact br _ | assumption | refine ba ?_ | refine bd ?_ | refine below_drewN ?_ _ | refine bs ?_ (by (try simp) <;> omega))) g1
  replace HV := Lib.hid (HV.out.below S1)
  replace HT := Lib.hid (HT.out.below S1)
  replace HL := Lib.hid (HL.out.below S1)
  have c1_v_0 : w1.cell? ⟨w.heap.size, 0, none⟩ = some (.string x) := bc g1 (by first | with_reducible assumption | go_simp)
  have c1_v_1 : w1.cell? ⟨w.heap.size, 1, none⟩ = some (.string y) := bc g1 (by first | with_reducible assumption | go_simp)
  have c1_v_2 : w1.cell? ⟨w.heap.size, 2, none⟩ = some (.string z) := bc g1 (by first | with_reducible assumption | go_simp)
  have z1_v : w.heap.size < w1.heap.size := World.block_lt_of_cell? _ _ c1_v_0
  have B1 : Below w.heap.size w w1 := S1
  clear g1
  go_wp2_with fail
  refine (H20.out _ (HV.out.below (by repeat (first | exact br _ | assumption | refine ba ?_ | refine bd ?_ | refine below_drewN ?_ _ | refine bs ?_ (by (try simp) <;> omega))))).mono ?_
  rintro e w2 ⟨rfl, g2⟩
  have S2 : Below w1.heap.size w1 w2 := bn (by repeat (first | exact br _ | assumption | refine ba ?_ | refine bd ?_ | refine below_drewN ?_ _ | refine bs ?_ (by (try simp) <;> omega))) g2
  replace HV := Lib.hid (HV.out.below S2)
  replace HT := Lib.hid (HT.out.below S2)
  replace HL := Lib.hid (HL.out.below S2)
  have c2_v_0 : w2.cell? ⟨w.heap.size, 0, none⟩ = some (.string x) := bc g2 (by first | with_reducible assumption | go_simp)
  have c2_v_1 : w2.cell? ⟨w.heap.size, 1, none⟩ = some (.string y) := bc g2 (by first | with_reducible assumption | go_simp)
  have c2_v_2 : w2.cell? ⟨w.heap.size, 2, none⟩ = some (.string z) := bc g2 (by first | with_reducible assumption | go_simp)
  have z2_v : w.heap.size < w2.heap.size := World.block_lt_of_cell? _ _ c2_v_0
  have B2 : Below w.heap.size w w2 := bn B1 S2
  clear g2 S2
  go_wp2_with fail
  refine (H21.out _ (HT.out.below (by repeat (first | exact br _ | assumption | refine ba ?_ | refine bd ?_ | refine below_drewN ?_ _ | refine bs ?_ (by (try simp) <;> omega))))).mono ?_
  rintro e w3 ⟨rfl, g3⟩
  have S3 : Below w2.heap.size w2 w3 := bn (by repeat (first | exact br _ | assumption | refine ba ?_ | refine bd ?_ | refine below_drewN ?_ _ | refine bs ?_ (by (try simp) <;> omega))) g3
  replace HV := Lib.hid (HV.out.below S3)
  replace HT := Lib.hid (HT.out.below S3)
  replace HL := Lib.hid (HL.out.below S3)
  have c3_v_0 : w3.cell? ⟨w.heap.size, 0, none⟩ = some (.string x) := bc g3 (by first | with_reducible assumption | go_simp)
  have c3_v_1 : w3.cell? ⟨w.heap.size, 1, none⟩ = some (.string y) := bc g3 (by first | with_reducible assumption | go_simp)
  have c3_v_2 : w3.cell? ⟨w.heap.size, 2, none⟩ = some (.string z) := bc g3 (by first | with_reducible assumption | go_simp)
  have z3_v : w.heap.size < w3.heap.size := World.block_lt_of_cell? _ _ c3_v_0
  have B3 : Below w.heap.size w w3 := bn B2 S3
  clear g3 S3
  go_wp2_with fail
  refine (H10.out _ (HL.out.below (by repeat (first | exact br _ | assumption | refine ba ?_ | refine bd ?_ | refine below_drewN ?_ _ | refine bs ?_ (by (try simp) <;> omega))))).mono ?_
  rintro e w4 ⟨rfl, g4⟩
  have S4 : Below w3.heap.size w3 w4 := bn (by repeat (first | exact br _ | assumption | refine ba ?_ | refine bd ?_ | refine below_drewN ?_ _ | refine bs ?_ (by (try simp) <;> omega))) g4
  replace HV := Lib.hid (HV.out.below S4)
  replace HT := Lib.hid (HT.out.below S4)
  replace HL := Lib.hid (HL.out.below S4)
  have c4_v_0 : w4.cell? ⟨w.heap.size, 0, none⟩ = some (.string x) := bc g4 (by first | with_reducible assumption | go_simp)
  have c4_v_1 : w4.cell? ⟨w.heap.size, 1, none⟩ = some (.string y) := bc g4 (by first | with_reducible assumption | go_simp)
  have c4_v_2 : w4.cell? ⟨w.heap.size, 2, none⟩ = some (.string z) := bc g4 (by first | with_reducible assumption | go_simp)
  have z4_v : w.heap.size < w4.heap.size := World.block_lt_of_cell? _ _ c4_v_0
  have B4 : Below w.heap.size w w4 := bn B3 S4
  clear g4 S4
  go_wp2_with fail
  refine (H11.out _ _ (bk_at rfl)).mono ?_
  rintro e w5 ⟨rfl, g5⟩
  have S5 : Below w4.heap.size w4 w5 := bn (by repeat (first | exact br _ | assumption | refine ba ?_ | refine bd ?_ | refine below_drewN ?_ _ | refine bs ?_ (by (try simp) <;> omega))) g5
  replace HV := Lib.hid (HV.out.below S5)
  replace HT := Lib.hid (HT.out.below S5)
  replace HL := Lib.hid (HL.out.below S5)
  have c5_v_0 : w5.cell? ⟨w.heap.size, 0, none⟩ = some (.string x) := bc g5 (by first | with_reducible assumption | go_simp)
  have c5_v_1 : w5.cell? ⟨w.heap.size, 1, none⟩ = some (.string y) := bc g5 (by first | with_reducible assumption | go_simp)
  have c5_v_2 : w5.cell? ⟨w.heap.size, 2, none⟩ = some (.string z) := bc g5 (by first | with_reducible assumption | go_simp)
  have z5_v : w.heap.size < w5.heap.size := World.block_lt_of_cell? _ _ c5_v_0
  have B5 : Below w.heap.size w w5 := bn B4 S5
  clear g5 S5
  go_wp2
  go_region_held3 (fun w' => w'.cell? ⟨w.heap.size, 0, none⟩ = some (.string x) ∧ w'.cell? ⟨w.heap.size, 1, none⟩ = some (.string y) ∧ w'.cell? ⟨w.heap.size, 2, none⟩ = some (.string z) ∧ Below w5.heap.size w5 w')
    ((refine (fun hb => ⟨bc hb c5_v_0, bc hb c5_v_1, bc hb c5_v_2, hb⟩) ?_; go_split_ands; repeat (first | with_reducible assumption | (with_reducible exact bd (br _)) | (with_reducible exact br _) | (with_reducible refine bn ?_ g) | (with_reducible refine ba ?_) | (with_reducible refine bd ?_))))
    (first
      | (go_at_call 13; refine (HCV.out _ (HL.out.below (by go_split_ands; assumption))).mono ?_; rintro e wx1 ⟨_, rfl, ⟨A4, c4, rfl, q3⟩, g⟩; have X1 : Below w5.heap.size w5 wx1 := bn (by go_split_ands; assumption) g; have V3 := Lib.hid q3; clear q3)
      | (go_at_call 15; refine (HP.out _ _ _ (hB.below (bn B5 (by go_split_ands; assumption))) (V3.out.below (by repeat (first | with_reducible exact br _ | with_reducible assumption | with_reducible refine ba ?_ | with_reducible refine bd ?_ | (refine below_drewN ?_ _))))).mono ?_; rintro e w6 ⟨_, rfl, ⟨AP, nP, cP, zP, rfl, KP⟩, g⟩; have S6 : Below w5.heap.size w5 w6 := bn (by go_split_ands; assumption) g))
  clear V3
  have g6 := S6
  replace HV := Lib.hid (HV.out.below S6)
  replace HT := Lib.hid (HT.out.below S6)
  replace HL := Lib.hid (HL.out.below S6)
  have c6_v_0 : w6.cell? ⟨w.heap.size, 0, none⟩ = some (.string x) := bc g6 (by first | with_reducible assumption | go_simp)
  have c6_v_1 : w6.cell? ⟨w.heap.size, 1, none⟩ = some (.string y) := bc g6 (by first | with_reducible assumption | go_simp)
  have c6_v_2 : w6.cell? ⟨w.heap.size, 2, none⟩ = some (.string z) := bc g6 (by first | with_reducible assumption | go_simp)
  have z6_v : w.heap.size < w6.heap.size := World.block_lt_of_cell? _ _ c6_v_0
  have B6 : Below w.heap.size w w6 := bn B5 S6
  clear g6 S6
  clear HL
  go_upto_region 4 with fail
  go_cut [66] (fun sx wx => sx = .bool false ∧ Below w6.heap.size w6 wx)
  case first =>
    by_cases hz : zP = 0
    · have HK := Lib.hid (KP.out hz)
      have hz2 : (zP == 0) = true := by simp [hz]
      clear hz KP
      go_wp2_with fail
      refine (ck_walk (hB.below (by repeat (first | exact br _ | assumption | refine ba ?_ | refine bd ?_ | refine below_drewN ?_ _ | refine bs ?_ (by (try simp) <;> omega)))) (HK.out.below (by repeat (first | exact br _ | assumption | refine ba ?_ | refine bd ?_ | refine below_drewN ?_ _ | refine bs ?_ (by (try simp) <;> omega))))).mono ?_
      rintro e wx ⟨rfl, g⟩
      have BX : Below w6.heap.size w6 wx := bn (by repeat (first | exact br _ | assumption | refine ba ?_ | refine bd ?_ | refine below_drewN ?_ _ | refine bs ?_ (by (try simp) <;> omega))) g
      clear g
      go_wp2
      go_meet
      exact ⟨rfl, (by repeat (first | exact br _ | assumption | refine ba ?_ | refine bd ?_ | refine below_drewN ?_ _ | refine bs ?_ (by (try simp) <;> omega)))⟩
    · have hz2 : (zP == 0) = false := by simp [hz]
      clear KP
      go_wp2
      go_meet
      exact ⟨rfl, (by repeat (first | exact br _ | assumption | refine ba ?_ | refine bd ?_ | refine below_drewN ?_ _ | refine bs ?_ (by (try simp) <;> omega)))⟩
  case rest =>
    obtain ⟨rfl, g7⟩ := hcut
    obtain ⟨w7, hWW⟩ : ∃ x, x = wc := ⟨_, rfl⟩
    subst hWW
    clear KP
    have S7 := g7
    replace HV := Lib.hid (HV.out.below S7)
    replace HT := Lib.hid (HT.out.below S7)
    have c7_v_0 : w7.cell? ⟨w.heap.size, 0, none⟩ = some (.string x) := bc g7 (by first | with_reducible assumption | go_simp)
    have c7_v_1 : w7.cell? ⟨w.heap.size, 1, none⟩ = some (.string y) := bc g7 (by first | with_reducible assumption | go_simp)
    have c7_v_2 : w7.cell? ⟨w.heap.size, 2, none⟩ = some (.string z) := bc g7 (by first | with_reducible assumption | go_simp)
    have z7_v : w.heap.size < w7.heap.size := World.block_lt_of_cell? _ _ c7_v_0
    have B7 : Below w.heap.size w w7 := bn B6 S7
    clear g7 S7
    go_wp2_with fail
    refine (H32.out _ (hB.below (by repeat (first | exact br _ | assumption | refine ba ?_ | refine bd ?_ | refine below_drewN ?_ _ | refine bs ?_ (by (try simp) <;> omega)))) (HV.out.below (by repeat (first | exact br _ | assumption | refine ba ?_ | refine bd ?_ | refine below_drewN ?_ _ | refine bs ?_ (by (try simp) <;> omega))))).mono ?_
    rintro e w8 ⟨rfl, g8⟩
    have S8 : Below w7.heap.size w7 w8 := bn (by repeat (first | exact br _ | assumption | refine ba ?_ | refine bd ?_ | refine below_drewN ?_ _ | refine bs ?_ (by (try simp) <;> omega))) g8
    replace HV := Lib.hid (HV.out.below S8)
    replace HT := Lib.hid (HT.out.below S8)
    have c8_v_0 : w8.cell? ⟨w.heap.size, 0, none⟩ = some (.string x) := bc g8 (by first | with_reducible assumption | go_simp)
    have c8_v_1 : w8.cell? ⟨w.heap.size, 1, none⟩ = some (.string y) := bc g8 (by first | with_reducible assumption | go_simp)
    have c8_v_2 : w8.cell? ⟨w.heap.size, 2, none⟩ = some (.string z) := bc g8 (by first | with_reducible assumption | go_simp)
    have z8_v : w.heap.size < w8.heap.size := World.block_lt_of_cell? _ _ c8_v_0
    have B8 : Below w.heap.size w w8 := bn B7 S8
    clear g8 S8
    go_wp2
    go_ret
    exact ⟨rfl, (by repeat (first | exact br _ | assumption | refine ba ?_ | refine bd ?_ | refine below_drewN ?_ _ | refine bs ?_ (by (try simp) <;> omega)))⟩

set_option maxHeartbeats 4000000 in
set_option maxRecDepth 100000 in
theorem closes_main (A A2 A3 : Option Addr) (n cap m cap2 r cap3 : Nat) (l lt : List TV) (lv : List SV) (x y z : ByteArray) (kb : Nat) (w : World) (hB : Bw w) (hv : Ts w (.slice A n cap) l) (hv2 : Ts w (.slice A2 m cap2) lt) (hv3 : Vs w (.slice A3 r cap3) lv)
    (hr : (r : Int) ≤ 8)
    (h20 : ∀ w, Ts w (.slice A n cap) l → Calls Tryz.prog 20 #[.slice A n cap] w fun e w' => e = .returned (.bool true) ∧ Below w.heap.size w w')
    (h21 : ∀ w, Ts w (.slice A2 m cap2) lt → Calls Tryz.prog 20 #[.slice A2 m cap2] w fun e w' => e = .returned (.bool true) ∧ Below w.heap.size w w')
    (h10 : ∀ w, Vs w (.slice A3 r cap3) lv → Calls Tryz.prog 11 #[.slice A3 r cap3] w fun e w' => e = .returned (.bool true) ∧ Below w.heap.size w w')
    (h11 : ∀ p w, Bk w p [.string x, .string y, .string z] → Calls Tryz.prog 11 #[.slice (some ⟨p, 0, none⟩) 1 1] w fun e w' => e = .returned (.bool true) ∧ Below w.heap.size w w')
    (hcv : ∀ w, Vs w (.slice A3 r cap3) lv → Calls Tryz.prog 13 #[.slice A3 r cap3] w (Ret fun q w' => (∃ A c, q = .slice A r c ∧ Vs w' (.slice A r c) lv) ∧ Below w.heap.size w w'))
    (hp : ∀ A c w, Bw w → Vs w (.slice A r c) lv → Calls Tryz.prog 15 #[.slice A r c, .agg #[.string x, .string y, .string z]] w (Ret fun q w' => (∃ A n c z, q = .tuple #[.slice A n c, .int .i64 z] ∧ Hid (z = 0 → CK w' (.slice A n c))) ∧ Below w.heap.size w w'))
    (lm lr lo : List TV) (k : Nat) (a b c : SV) (b1 b2 b3 : Bool)
    (h32 : ∀ w, Bw w → Ts w (.slice A n cap) l → Calls Tryz.prog 32 #[.slice A n cap] w fun e w' => e = .returned (.int .i64 0) ∧ Below w.heap.size w w')
    (hcl : ∀ A cap w, Ts w (.slice A n cap) l → Calls Tryz.prog 22 #[.slice A n cap] w (Ret fun r w' => (∃ A c, r = .slice A n c ∧ Ts w' (.slice A n c) l) ∧ Below w.heap.size w w'))
    (hct : ∀ A cap w, Ts w (.slice A m cap) lt → Calls Tryz.prog 22 #[.slice A m cap] w (Ret fun r w' => (∃ A c, r = .slice A m c ∧ Ts w' (.slice A m c) lt) ∧ Below w.heap.size w w'))
    (hrv : ∀ A cap w, Bw w → Ts w (.slice A n cap) l → Calls Tryz.prog 24 #[.slice A n cap] w (Ret fun r w' => (∃ A c, r = .tuple #[.slice A n c, .int .i64 0] ∧ Ts w' (.slice A n c) lr) ∧ Below w.heap.size w w'))
    (hm : ∀ A cap w, Bw w → Ts w (.slice A n cap) l → Calls Tryz.prog 26 #[.slice A n cap] w (Ret fun r w' => (∃ A c, r = .tuple #[.slice A n c, .int .i64 0] ∧ Ts w' (.slice A n c) lm) ∧ Below w.heap.size w w'))
    (hkr : ∀ A cap w, Bw w → Ts w (.slice A n cap) lr → Calls Tryz.prog 32 #[.slice A n cap] w fun e w' => e = .returned (.int .i64 0) ∧ Below w.heap.size w w')
    (hkm : ∀ A cap w, Bw w → Ts w (.slice A n cap) lm → Calls Tryz.prog 32 #[.slice A n cap] w fun e w' => e = .returned (.int .i64 0) ∧ Below w.heap.size w w')
    (hmv : ∀ A cap w, Bw w → Ts w (.slice A n cap) l → Calls Tryz.prog 21 #[.slice A n cap, .agg #[.string x, .string y, .string z]] w (Ret fun q w' => (∃ A n c z, q = .tuple #[.slice A n c, .int .i64 z] ∧ Hid (z = 0 → CK w' (.slice A n c))) ∧ Below w.heap.size w w'))
    (hj : ∀ A cap A' cap' w, Bw w → Ts w (.slice A n cap) l → Ts w (.slice A' m cap') lt → Calls Tryz.prog 28 #[.slice A n cap, .slice A' m cap'] w (Ret fun q w' => (∃ A n c z, q = .tuple #[.slice A n c, .int .i64 z] ∧ Hid (z = 0 → CK w' (.slice A n c))) ∧ Below w.heap.size w w'))
    (hk : 0 < n → k < n ∧ Int.tmod (kb : Int) (n : Int) = (k : Int) ∧ l[k]? = some ⟨a, b, c⟩ ∧ n ≤ 1000000) (hkb : kb ≤ 255)
    (hb1 : (a.x.toList == b.x.toList && (a.y.toList == b.y.toList && a.z.toList == b.z.toList)) = b1) (hb2 : (b.x.toList == c.x.toList && (b.y.toList == c.y.toList && b.z.toList == c.z.toList)) = b2) (hb3 : (c.x.toList == a.x.toList && (c.y.toList == a.y.toList && c.z.toList == a.z.toList)) = b3)
    (ho : ∀ A cap w, Ts w (.slice A n cap) l → Calls Tryz.prog 22 #[.slice A n cap] w (Ret fun u w' => w'.ownsRow w.heap.size 43 9 u n (tcs l) ∧ Below w.heap.size w w'))
    (hd : ∀ g cap base w, 0 < n → w.ownsRow base 43 9 (.slice (some ⟨g, 0, none⟩) n cap) n (tcs l) → Calls Tryz.prog 45 #[.slice (some ⟨g, 0, none⟩) n cap, .int .i64 k, .int .i64 ((k : Int) + 1)] w fun e w' => e = .returned (.slice (some ⟨g, 0, none⟩) (n - 1) cap) ∧ Ts w' (.slice (some ⟨g, 0, none⟩) (n - 1) cap) lo ∧ Below base w w')
    (hkd : 0 < n → (b1 || (b2 || b3)) = false → ∀ v w, Bw w → Ts w v lo → Calls Tryz.prog 32 #[v] w fun e w' => e = .returned (.int .i64 17) ∧ Below w.heap.size w w') :
    Calls Tryz.prog 9 #[.slice A n cap, .slice A2 m cap2, .slice A3 r cap3, .agg #[.string x, .string y, .string z], .int .u8 kb] w fun e w' => e = .returned (.bool true) ∧ Below w.heap.size w w' := by
  have HV := Lib.hid hv
  have HT := Lib.hid hv2
  have HL := Lib.hid hv3
  clear hv hv2 hv3
  have H0 := Lib.hid (fun w hB => awake_walk w hB)
  have H20 := Lib.hid h20
  clear h20
  have H21 := Lib.hid h21
  clear h21
  have H10 := Lib.hid h10
  clear h10
  have H11 := Lib.hid h11
  clear h11
  have HCV := Lib.hid hcv
  clear hcv
  have HP := Lib.hid hp
  clear hp
  have H32 := Lib.hid h32
  clear h32
  have HCL := Lib.hid hcl
  clear hcl
  have HCT := Lib.hid hct
  clear hct
  have HRV := Lib.hid hrv
  clear hrv
  have HM := Lib.hid hm
  clear hm
  have HKR := Lib.hid hkr
  clear hkr
  have HKM := Lib.hid hkm
  clear hkm
  have HMV := Lib.hid hmv
  clear hmv
  have HJ := Lib.hid hj
  clear hj
  have HK := Lib.hid hk
  clear hk
  have HO := Lib.hid ho
  clear ho
  have HD := Lib.hid hd
  clear hd
  have HKD := Lib.hid hkd
  clear hkd
  have q1 : ∀ w, (binOp .eql 25 (.agg #[.string a.x, .string a.y, .string a.z]) (.agg #[.string b.x, .string b.y, .string b.z])).run Tryz.prog w = .ok (.bool b1) w := fun w => by rw [eql_vec, hb1]
  have q2 : ∀ w, (binOp .eql 25 (.agg #[.string b.x, .string b.y, .string b.z]) (.agg #[.string c.x, .string c.y, .string c.z])).run Tryz.prog w = .ok (.bool b2) w := fun w => by rw [eql_vec, hb2]
  have q3 : ∀ w, (binOp .eql 25 (.agg #[.string c.x, .string c.y, .string c.z]) (.agg #[.string a.x, .string a.y, .string a.z])).run Tryz.prog w = .ok (.bool b3) w := fun w => by rw [eql_vec, hb3]
  have Q1 := Lib.hid q1
  have Q2 := Lib.hid q2
  have Q3 := Lib.hid q3
  clear hb1 hb2 hb3 q1 q2 q3
  go_enter Tryz.func9, Tryz.ntmps9
  go_wp2_with fail
  refine (H0.out _ (hB.below (by repeat (first | exact br _ | assumption | refine ba ?_ | refine bd ?_ | refine below_drewN ?_ _ | refine bs ?_ (by (try simp) <;> omega))))).mono ?_
  rintro e w1 ⟨rfl, g1⟩
  have S1 : Below w.heap.size w w1 := bn (by repeat (first | exact br _ | assumption | refine ba ?_ | refine bd ?_ | refine below_drewN ?_ _ | refine bs ?_ (by (try simp) <;> omega))) g1
  replace HV := Lib.hid (HV.out.below S1)
  replace HT := Lib.hid (HT.out.below S1)
  replace HL := Lib.hid (HL.out.below S1)
  have c1_v_0 : w1.cell? ⟨w.heap.size, 0, none⟩ = some (.string x) := bc g1 (by first | with_reducible assumption | go_simp)
  have c1_v_1 : w1.cell? ⟨w.heap.size, 1, none⟩ = some (.string y) := bc g1 (by first | with_reducible assumption | go_simp)
  have c1_v_2 : w1.cell? ⟨w.heap.size, 2, none⟩ = some (.string z) := bc g1 (by first | with_reducible assumption | go_simp)
  have z1_v : w.heap.size < w1.heap.size := World.block_lt_of_cell? _ _ c1_v_0
  have B1 : Below w.heap.size w w1 := S1
  clear g1
  go_wp2_with fail
  refine (H20.out _ (HV.out.below (by repeat (first | exact br _ | assumption | refine ba ?_ | refine bd ?_ | refine below_drewN ?_ _ | refine bs ?_ (by (try simp) <;> omega))))).mono ?_
  rintro e w2 ⟨rfl, g2⟩
  have S2 : Below w1.heap.size w1 w2 := bn (by repeat (first | exact br _ | assumption | refine ba ?_ | refine bd ?_ | refine below_drewN ?_ _ | refine bs ?_ (by (try simp) <;> omega))) g2
  replace HV := Lib.hid (HV.out.below S2)
  replace HT := Lib.hid (HT.out.below S2)
  replace HL := Lib.hid (HL.out.below S2)
  have c2_v_0 : w2.cell? ⟨w.heap.size, 0, none⟩ = some (.string x) := bc g2 (by first | with_reducible assumption | go_simp)
  have c2_v_1 : w2.cell? ⟨w.heap.size, 1, none⟩ = some (.string y) := bc g2 (by first | with_reducible assumption | go_simp)
  have c2_v_2 : w2.cell? ⟨w.heap.size, 2, none⟩ = some (.string z) := bc g2 (by first | with_reducible assumption | go_simp)
  have z2_v : w.heap.size < w2.heap.size := World.block_lt_of_cell? _ _ c2_v_0
  have B2 : Below w.heap.size w w2 := bn B1 S2
  clear g2 S2
  go_wp2_with fail
  refine (H21.out _ (HT.out.below (by repeat (first | exact br _ | assumption | refine ba ?_ | refine bd ?_ | refine below_drewN ?_ _ | refine bs ?_ (by (try simp) <;> omega))))).mono ?_
  rintro e w3 ⟨rfl, g3⟩
  have S3 : Below w2.heap.size w2 w3 := bn (by repeat (first | exact br _ | assumption | refine ba ?_ | refine bd ?_ | refine below_drewN ?_ _ | refine bs ?_ (by (try simp) <;> omega))) g3
  replace HV := Lib.hid (HV.out.below S3)
  replace HT := Lib.hid (HT.out.below S3)
  replace HL := Lib.hid (HL.out.below S3)
  have c3_v_0 : w3.cell? ⟨w.heap.size, 0, none⟩ = some (.string x) := bc g3 (by first | with_reducible assumption | go_simp)
  have c3_v_1 : w3.cell? ⟨w.heap.size, 1, none⟩ = some (.string y) := bc g3 (by first | with_reducible assumption | go_simp)
  have c3_v_2 : w3.cell? ⟨w.heap.size, 2, none⟩ = some (.string z) := bc g3 (by first | with_reducible assumption | go_simp)
  have z3_v : w.heap.size < w3.heap.size := World.block_lt_of_cell? _ _ c3_v_0
  have B3 : Below w.heap.size w w3 := bn B2 S3
  clear g3 S3
  go_wp2_with fail
  refine (H10.out _ (HL.out.below (by repeat (first | exact br _ | assumption | refine ba ?_ | refine bd ?_ | refine below_drewN ?_ _ | refine bs ?_ (by (try simp) <;> omega))))).mono ?_
  rintro e w4 ⟨rfl, g4⟩
  have S4 : Below w3.heap.size w3 w4 := bn (by repeat (first | exact br _ | assumption | refine ba ?_ | refine bd ?_ | refine below_drewN ?_ _ | refine bs ?_ (by (try simp) <;> omega))) g4
  replace HV := Lib.hid (HV.out.below S4)
  replace HT := Lib.hid (HT.out.below S4)
  replace HL := Lib.hid (HL.out.below S4)
  have c4_v_0 : w4.cell? ⟨w.heap.size, 0, none⟩ = some (.string x) := bc g4 (by first | with_reducible assumption | go_simp)
  have c4_v_1 : w4.cell? ⟨w.heap.size, 1, none⟩ = some (.string y) := bc g4 (by first | with_reducible assumption | go_simp)
  have c4_v_2 : w4.cell? ⟨w.heap.size, 2, none⟩ = some (.string z) := bc g4 (by first | with_reducible assumption | go_simp)
  have z4_v : w.heap.size < w4.heap.size := World.block_lt_of_cell? _ _ c4_v_0
  have B4 : Below w.heap.size w w4 := bn B3 S4
  clear g4 S4
  go_wp2_with fail
  refine (H11.out _ _ (bk_at rfl)).mono ?_
  rintro e w5 ⟨rfl, g5⟩
  have S5 : Below w4.heap.size w4 w5 := bn (by repeat (first | exact br _ | assumption | refine ba ?_ | refine bd ?_ | refine below_drewN ?_ _ | refine bs ?_ (by (try simp) <;> omega))) g5
  replace HV := Lib.hid (HV.out.below S5)
  replace HT := Lib.hid (HT.out.below S5)
  replace HL := Lib.hid (HL.out.below S5)
  have c5_v_0 : w5.cell? ⟨w.heap.size, 0, none⟩ = some (.string x) := bc g5 (by first | with_reducible assumption | go_simp)
  have c5_v_1 : w5.cell? ⟨w.heap.size, 1, none⟩ = some (.string y) := bc g5 (by first | with_reducible assumption | go_simp)
  have c5_v_2 : w5.cell? ⟨w.heap.size, 2, none⟩ = some (.string z) := bc g5 (by first | with_reducible assumption | go_simp)
  have z5_v : w.heap.size < w5.heap.size := World.block_lt_of_cell? _ _ c5_v_0
  have B5 : Below w.heap.size w w5 := bn B4 S5
  clear g5 S5
  go_wp2
  go_region_held3 (fun w' => w'.cell? ⟨w.heap.size, 0, none⟩ = some (.string x) ∧ w'.cell? ⟨w.heap.size, 1, none⟩ = some (.string y) ∧ w'.cell? ⟨w.heap.size, 2, none⟩ = some (.string z) ∧ Below w5.heap.size w5 w')
    ((refine (fun hb => ⟨bc hb c5_v_0, bc hb c5_v_1, bc hb c5_v_2, hb⟩) ?_; go_split_ands; repeat (first | with_reducible assumption | (with_reducible exact bd (br _)) | (with_reducible exact br _) | (with_reducible refine bn ?_ g) | (with_reducible refine ba ?_) | (with_reducible refine bd ?_))))
    (first
      | (go_at_call 13; refine (HCV.out _ (HL.out.below (by go_split_ands; assumption))).mono ?_; rintro e wx1 ⟨_, rfl, ⟨A4, c4, rfl, q3⟩, g⟩; have X1 : Below w5.heap.size w5 wx1 := bn (by go_split_ands; assumption) g; have V3 := Lib.hid q3; clear q3)
      | (go_at_call 15; refine (HP.out _ _ _ (hB.below (bn B5 (by go_split_ands; assumption))) (V3.out.below (by repeat (first | with_reducible exact br _ | with_reducible assumption | with_reducible refine ba ?_ | with_reducible refine bd ?_ | (refine below_drewN ?_ _))))).mono ?_; rintro e w6 ⟨_, rfl, ⟨AP, nP, cP, zP, rfl, KP⟩, g⟩; have S6 : Below w5.heap.size w5 w6 := bn (by go_split_ands; assumption) g))
  clear V3
  have g6 := S6
  replace HV := Lib.hid (HV.out.below S6)
  replace HT := Lib.hid (HT.out.below S6)
  replace HL := Lib.hid (HL.out.below S6)
  have c6_v_0 : w6.cell? ⟨w.heap.size, 0, none⟩ = some (.string x) := bc g6 (by first | with_reducible assumption | go_simp)
  have c6_v_1 : w6.cell? ⟨w.heap.size, 1, none⟩ = some (.string y) := bc g6 (by first | with_reducible assumption | go_simp)
  have c6_v_2 : w6.cell? ⟨w.heap.size, 2, none⟩ = some (.string z) := bc g6 (by first | with_reducible assumption | go_simp)
  have z6_v : w.heap.size < w6.heap.size := World.block_lt_of_cell? _ _ c6_v_0
  have B6 : Below w.heap.size w w6 := bn B5 S6
  clear g6 S6
  clear HL
  go_upto_region 4 with fail
  go_cut [66] (fun sx wx => sx = .bool false ∧ Below w6.heap.size w6 wx)
  case first =>
    by_cases hz : zP = 0
    · have HK := Lib.hid (KP.out hz)
      have hz2 : (zP == 0) = true := by simp [hz]
      clear hz KP
      go_wp2_with fail
      refine (ck_walk (hB.below (by repeat (first | exact br _ | assumption | refine ba ?_ | refine bd ?_ | refine below_drewN ?_ _ | refine bs ?_ (by (try simp) <;> omega)))) (HK.out.below (by repeat (first | exact br _ | assumption | refine ba ?_ | refine bd ?_ | refine below_drewN ?_ _ | refine bs ?_ (by (try simp) <;> omega))))).mono ?_
      rintro e wx ⟨rfl, g⟩
      have BX : Below w6.heap.size w6 wx := bn (by repeat (first | exact br _ | assumption | refine ba ?_ | refine bd ?_ | refine below_drewN ?_ _ | refine bs ?_ (by (try simp) <;> omega))) g
      clear g
      go_wp2
      go_meet
      exact ⟨rfl, (by repeat (first | exact br _ | assumption | refine ba ?_ | refine bd ?_ | refine below_drewN ?_ _ | refine bs ?_ (by (try simp) <;> omega)))⟩
    · have hz2 : (zP == 0) = false := by simp [hz]
      clear KP
      go_wp2
      go_meet
      exact ⟨rfl, (by repeat (first | exact br _ | assumption | refine ba ?_ | refine bd ?_ | refine below_drewN ?_ _ | refine bs ?_ (by (try simp) <;> omega)))⟩
  case rest =>
    obtain ⟨rfl, g7⟩ := hcut
    obtain ⟨w7, hWW⟩ : ∃ x, x = wc := ⟨_, rfl⟩
    subst hWW
    clear KP
    have S7 := g7
    replace HV := Lib.hid (HV.out.below S7)
    replace HT := Lib.hid (HT.out.below S7)
    have c7_v_0 : w7.cell? ⟨w.heap.size, 0, none⟩ = some (.string x) := bc g7 (by first | with_reducible assumption | go_simp)
    have c7_v_1 : w7.cell? ⟨w.heap.size, 1, none⟩ = some (.string y) := bc g7 (by first | with_reducible assumption | go_simp)
    have c7_v_2 : w7.cell? ⟨w.heap.size, 2, none⟩ = some (.string z) := bc g7 (by first | with_reducible assumption | go_simp)
    have z7_v : w.heap.size < w7.heap.size := World.block_lt_of_cell? _ _ c7_v_0
    have B7 : Below w.heap.size w w7 := bn B6 S7
    clear g7 S7
    go_wp2_with fail
    refine (H32.out _ (hB.below (by repeat (first | exact br _ | assumption | refine ba ?_ | refine bd ?_ | refine below_drewN ?_ _ | refine bs ?_ (by (try simp) <;> omega)))) (HV.out.below (by repeat (first | exact br _ | assumption | refine ba ?_ | refine bd ?_ | refine below_drewN ?_ _ | refine bs ?_ (by (try simp) <;> omega))))).mono ?_
    rintro e w8 ⟨rfl, g8⟩
    have S8 : Below w7.heap.size w7 w8 := bn (by repeat (first | exact br _ | assumption | refine ba ?_ | refine bd ?_ | refine below_drewN ?_ _ | refine bs ?_ (by (try simp) <;> omega))) g8
    replace HV := Lib.hid (HV.out.below S8)
    replace HT := Lib.hid (HT.out.below S8)
    have c8_v_0 : w8.cell? ⟨w.heap.size, 0, none⟩ = some (.string x) := bc g8 (by first | with_reducible assumption | go_simp)
    have c8_v_1 : w8.cell? ⟨w.heap.size, 1, none⟩ = some (.string y) := bc g8 (by first | with_reducible assumption | go_simp)
    have c8_v_2 : w8.cell? ⟨w.heap.size, 2, none⟩ = some (.string z) := bc g8 (by first | with_reducible assumption | go_simp)
    have z8_v : w.heap.size < w8.heap.size := World.block_lt_of_cell? _ _ c8_v_0
    have B8 : Below w.heap.size w w8 := bn B7 S8
    clear g8 S8
    go_wp2_with fail
    refine (HCL.out _ _ _ (HV.out.below (by repeat (first | exact br _ | assumption | refine ba ?_ | refine bd ?_ | refine below_drewN ?_ _ | refine bs ?_ (by (try simp) <;> omega))))).mono ?_
    rintro e w9 ⟨_, rfl, ⟨AV1, cV1, rfl, V1'⟩, g9⟩
    have S9 : Below w8.heap.size w8 w9 := bn (by repeat (first | exact br _ | assumption | refine ba ?_ | refine bd ?_ | refine below_drewN ?_ _ | refine bs ?_ (by (try simp) <;> omega))) g9
    replace HV := Lib.hid (HV.out.below S9)
    replace HT := Lib.hid (HT.out.below S9)
    have c9_v_0 : w9.cell? ⟨w.heap.size, 0, none⟩ = some (.string x) := bc g9 (by first | with_reducible assumption | go_simp)
    have c9_v_1 : w9.cell? ⟨w.heap.size, 1, none⟩ = some (.string y) := bc g9 (by first | with_reducible assumption | go_simp)
    have c9_v_2 : w9.cell? ⟨w.heap.size, 2, none⟩ = some (.string z) := bc g9 (by first | with_reducible assumption | go_simp)
    have z9_v : w.heap.size < w9.heap.size := World.block_lt_of_cell? _ _ c9_v_0
    have B9 : Below w.heap.size w w9 := bn B8 S9
    clear g9 S9
    have V1 := Lib.hid V1'
    clear V1'
    go_wp2_with fail
    refine (HRV.out _ _ _ (hB.below (by repeat (first | exact br _ | assumption | refine ba ?_ | refine bd ?_ | refine below_drewN ?_ _ | refine bs ?_ (by (try simp) <;> omega)))) (V1.out.below (by repeat (first | exact br _ | assumption | refine ba ?_ | refine bd ?_ | refine below_drewN ?_ _ | refine bs ?_ (by (try simp) <;> omega))))).mono ?_
    rintro e w10 ⟨_, rfl, ⟨AVR, cVR, rfl, VR'⟩, g10⟩
    have S10 : Below w9.heap.size w9 w10 := bn (by repeat (first | exact br _ | assumption | refine ba ?_ | refine bd ?_ | refine below_drewN ?_ _ | refine bs ?_ (by (try simp) <;> omega))) g10
    replace HV := Lib.hid (HV.out.below S10)
    replace HT := Lib.hid (HT.out.below S10)
    replace V1 := Lib.hid (V1.out.below S10)
    have c10_v_0 : w10.cell? ⟨w.heap.size, 0, none⟩ = some (.string x) := bc g10 (by first | with_reducible assumption | go_simp)
    have c10_v_1 : w10.cell? ⟨w.heap.size, 1, none⟩ = some (.string y) := bc g10 (by first | with_reducible assumption | go_simp)
    have c10_v_2 : w10.cell? ⟨w.heap.size, 2, none⟩ = some (.string z) := bc g10 (by first | with_reducible assumption | go_simp)
    have z10_v : w.heap.size < w10.heap.size := World.block_lt_of_cell? _ _ c10_v_0
    have B10 : Below w.heap.size w w10 := bn B9 S10
    clear g10 S10
    have VR := Lib.hid VR'
    clear VR'
    clear V1
    go_wp2_with fail
    refine (HCL.out _ _ _ (HV.out.below (by repeat (first | exact br _ | assumption | refine ba ?_ | refine bd ?_ | refine below_drewN ?_ _ | refine bs ?_ (by (try simp) <;> omega))))).mono ?_
    rintro e w11 ⟨_, rfl, ⟨AV2, cV2, rfl, V2'⟩, g11⟩
    have S11 : Below w10.heap.size w10 w11 := bn (by repeat (first | exact br _ | assumption | refine ba ?_ | refine bd ?_ | refine below_drewN ?_ _ | refine bs ?_ (by (try simp) <;> omega))) g11
    replace HV := Lib.hid (HV.out.below S11)
    replace HT := Lib.hid (HT.out.below S11)
    replace VR := Lib.hid (VR.out.below S11)
    have c11_v_0 : w11.cell? ⟨w.heap.size, 0, none⟩ = some (.string x) := bc g11 (by first | with_reducible assumption | go_simp)
    have c11_v_1 : w11.cell? ⟨w.heap.size, 1, none⟩ = some (.string y) := bc g11 (by first | with_reducible assumption | go_simp)
    have c11_v_2 : w11.cell? ⟨w.heap.size, 2, none⟩ = some (.string z) := bc g11 (by first | with_reducible assumption | go_simp)
    have z11_v : w.heap.size < w11.heap.size := World.block_lt_of_cell? _ _ c11_v_0
    have B11 : Below w.heap.size w w11 := bn B10 S11
    clear g11 S11
    have V2 := Lib.hid V2'
    clear V2'
    go_wp2_with fail
    refine (HM.out _ _ _ (hB.below (by repeat (first | exact br _ | assumption | refine ba ?_ | refine bd ?_ | refine below_drewN ?_ _ | refine bs ?_ (by (try simp) <;> omega)))) (V2.out.below (by repeat (first | exact br _ | assumption | refine ba ?_ | refine bd ?_ | refine below_drewN ?_ _ | refine bs ?_ (by (try simp) <;> omega))))).mono ?_
    rintro e w12 ⟨_, rfl, ⟨AVM, cVM, rfl, VM'⟩, g12⟩
    have S12 : Below w11.heap.size w11 w12 := bn (by repeat (first | exact br _ | assumption | refine ba ?_ | refine bd ?_ | refine below_drewN ?_ _ | refine bs ?_ (by (try simp) <;> omega))) g12
    replace HV := Lib.hid (HV.out.below S12)
    replace HT := Lib.hid (HT.out.below S12)
    replace VR := Lib.hid (VR.out.below S12)
    replace V2 := Lib.hid (V2.out.below S12)
    have c12_v_0 : w12.cell? ⟨w.heap.size, 0, none⟩ = some (.string x) := bc g12 (by first | with_reducible assumption | go_simp)
    have c12_v_1 : w12.cell? ⟨w.heap.size, 1, none⟩ = some (.string y) := bc g12 (by first | with_reducible assumption | go_simp)
    have c12_v_2 : w12.cell? ⟨w.heap.size, 2, none⟩ = some (.string z) := bc g12 (by first | with_reducible assumption | go_simp)
    have z12_v : w.heap.size < w12.heap.size := World.block_lt_of_cell? _ _ c12_v_0
    have B12 : Below w.heap.size w w12 := bn B11 S12
    clear g12 S12
    have VM := Lib.hid VM'
    clear VM'
    clear V2
    go_wp2_with fail
    refine (HKR.out _ _ _ (hB.below (by repeat (first | exact br _ | assumption | refine ba ?_ | refine bd ?_ | refine below_drewN ?_ _ | refine bs ?_ (by (try simp) <;> omega)))) (VR.out.below (by repeat (first | exact br _ | assumption | refine ba ?_ | refine bd ?_ | refine below_drewN ?_ _ | refine bs ?_ (by (try simp) <;> omega))))).mono ?_
    rintro e w13 ⟨rfl, g13⟩
    have S13 : Below w12.heap.size w12 w13 := bn (by repeat (first | exact br _ | assumption | refine ba ?_ | refine bd ?_ | refine below_drewN ?_ _ | refine bs ?_ (by (try simp) <;> omega))) g13
    replace HV := Lib.hid (HV.out.below S13)
    replace HT := Lib.hid (HT.out.below S13)
    replace VR := Lib.hid (VR.out.below S13)
    replace VM := Lib.hid (VM.out.below S13)
    have c13_v_0 : w13.cell? ⟨w.heap.size, 0, none⟩ = some (.string x) := bc g13 (by first | with_reducible assumption | go_simp)
    have c13_v_1 : w13.cell? ⟨w.heap.size, 1, none⟩ = some (.string y) := bc g13 (by first | with_reducible assumption | go_simp)
    have c13_v_2 : w13.cell? ⟨w.heap.size, 2, none⟩ = some (.string z) := bc g13 (by first | with_reducible assumption | go_simp)
    have z13_v : w.heap.size < w13.heap.size := World.block_lt_of_cell? _ _ c13_v_0
    have B13 : Below w.heap.size w w13 := bn B12 S13
    clear g13 S13
    go_wp2_with fail
    refine (HKM.out _ _ _ (hB.below (by repeat (first | exact br _ | assumption | refine ba ?_ | refine bd ?_ | refine below_drewN ?_ _ | refine bs ?_ (by (try simp) <;> omega)))) (VM.out.below (by repeat (first | exact br _ | assumption | refine ba ?_ | refine bd ?_ | refine below_drewN ?_ _ | refine bs ?_ (by (try simp) <;> omega))))).mono ?_
    rintro e w14 ⟨rfl, g14⟩
    have S14 : Below w13.heap.size w13 w14 := bn (by repeat (first | exact br _ | assumption | refine ba ?_ | refine bd ?_ | refine below_drewN ?_ _ | refine bs ?_ (by (try simp) <;> omega))) g14
    replace HV := Lib.hid (HV.out.below S14)
    replace HT := Lib.hid (HT.out.below S14)
    replace VR := Lib.hid (VR.out.below S14)
    replace VM := Lib.hid (VM.out.below S14)
    have c14_v_0 : w14.cell? ⟨w.heap.size, 0, none⟩ = some (.string x) := bc g14 (by first | with_reducible assumption | go_simp)
    have c14_v_1 : w14.cell? ⟨w.heap.size, 1, none⟩ = some (.string y) := bc g14 (by first | with_reducible assumption | go_simp)
    have c14_v_2 : w14.cell? ⟨w.heap.size, 2, none⟩ = some (.string z) := bc g14 (by first | with_reducible assumption | go_simp)
    have z14_v : w.heap.size < w14.heap.size := World.block_lt_of_cell? _ _ c14_v_0
    have B14 : Below w.heap.size w w14 := bn B13 S14
    clear g14 S14
    clear VR VM
    go_wp2
    go_region_held3 (fun w' => w'.cell? ⟨w.heap.size, 0, none⟩ = some (.string x) ∧ w'.cell? ⟨w.heap.size, 1, none⟩ = some (.string y) ∧ w'.cell? ⟨w.heap.size, 2, none⟩ = some (.string z) ∧ Below w14.heap.size w14 w')
      ((refine (fun hb => ⟨bc hb c14_v_0, bc hb c14_v_1, bc hb c14_v_2, hb⟩) ?_; go_split_ands; repeat (first | with_reducible assumption | (with_reducible exact bd (br _)) | (with_reducible exact br _) | (with_reducible refine bn ?_ g) | (with_reducible refine ba ?_) | (with_reducible refine bd ?_))))
      (first
        | (go_at_call 22; refine (HCL.out _ _ _ (HV.out.below (by go_split_ands; assumption))).mono ?_; rintro e wx1 ⟨_, rfl, ⟨A4, c4, rfl, q3⟩, g⟩; have X1 : Below w14.heap.size w14 wx1 := bn (by go_split_ands; assumption) g; have V3 := Lib.hid q3; clear q3)
        | (go_at_call 21; refine (HMV.out _ _ _ (hB.below (bn B14 (by go_split_ands; assumption))) (V3.out.below (by repeat (first | with_reducible exact br _ | with_reducible assumption | with_reducible refine ba ?_ | with_reducible refine bd ?_ | (refine below_drewN ?_ _))))).mono ?_; rintro e w15 ⟨_, rfl, ⟨AP, nP, cP, zP, rfl, KP⟩, g⟩; have S15 : Below w14.heap.size w14 w15 := bn (by go_split_ands; assumption) g))
    clear V3
    have g15 := S15
    replace HV := Lib.hid (HV.out.below S15)
    replace HT := Lib.hid (HT.out.below S15)
    have c15_v_0 : w15.cell? ⟨w.heap.size, 0, none⟩ = some (.string x) := bc g15 (by first | with_reducible assumption | go_simp)
    have c15_v_1 : w15.cell? ⟨w.heap.size, 1, none⟩ = some (.string y) := bc g15 (by first | with_reducible assumption | go_simp)
    have c15_v_2 : w15.cell? ⟨w.heap.size, 2, none⟩ = some (.string z) := bc g15 (by first | with_reducible assumption | go_simp)
    have z15_v : w.heap.size < w15.heap.size := World.block_lt_of_cell? _ _ c15_v_0
    have B15 : Below w.heap.size w w15 := bn B14 S15
    clear g15 S15
    go_upto_region 13 with fail
    go_cut [111] (fun sx wx => sx = .bool false ∧ Below w15.heap.size w15 wx)
    case first =>
      by_cases hz : zP = 0
      · have HK := Lib.hid (KP.out hz)
        have hz2 : (zP == 0) = true := by simp [hz]
        clear hz KP
        go_wp2_with fail
        refine (ck_walk (hB.below (by repeat (first | exact br _ | assumption | refine ba ?_ | refine bd ?_ | refine below_drewN ?_ _ | refine bs ?_ (by (try simp) <;> omega)))) (HK.out.below (by repeat (first | exact br _ | assumption | refine ba ?_ | refine bd ?_ | refine below_drewN ?_ _ | refine bs ?_ (by (try simp) <;> omega))))).mono ?_
        rintro e wx ⟨rfl, g⟩
        have BX : Below w15.heap.size w15 wx := bn (by repeat (first | exact br _ | assumption | refine ba ?_ | refine bd ?_ | refine below_drewN ?_ _ | refine bs ?_ (by (try simp) <;> omega))) g
        clear g
        go_wp2
        go_meet
        exact ⟨rfl, (by repeat (first | exact br _ | assumption | refine ba ?_ | refine bd ?_ | refine below_drewN ?_ _ | refine bs ?_ (by (try simp) <;> omega)))⟩
      · have hz2 : (zP == 0) = false := by simp [hz]
        clear KP
        go_wp2
        go_meet
        exact ⟨rfl, (by repeat (first | exact br _ | assumption | refine ba ?_ | refine bd ?_ | refine below_drewN ?_ _ | refine bs ?_ (by (try simp) <;> omega)))⟩
    case rest =>
      obtain ⟨rfl, g16⟩ := hcut
      obtain ⟨w16, hWW⟩ : ∃ x, x = wc := ⟨_, rfl⟩
      subst hWW
      clear KP
      have S16 := g16
      replace HV := Lib.hid (HV.out.below S16)
      replace HT := Lib.hid (HT.out.below S16)
      have B16 : Below w.heap.size w w16 := bn B15 S16
      clear g16 S16
      go_wp2_with fail
      refine (HCL.out _ _ _ (HV.out.below (by repeat (first | exact br _ | assumption | refine ba ?_ | refine bd ?_ | refine below_drewN ?_ _ | refine bs ?_ (by (try simp) <;> omega))))).mono ?_
      rintro e w17 ⟨_, rfl, ⟨AV4, cV4, rfl, V4'⟩, g17⟩
      have S17 : Below w16.heap.size w16 w17 := bn (by repeat (first | exact br _ | assumption | refine ba ?_ | refine bd ?_ | refine below_drewN ?_ _ | refine bs ?_ (by (try simp) <;> omega))) g17
      replace HV := Lib.hid (HV.out.below S17)
      replace HT := Lib.hid (HT.out.below S17)
      have B17 : Below w.heap.size w w17 := bn B16 S17
      clear g17 S17
      have V4 := Lib.hid V4'
      clear V4'
      go_wp2_with fail
      refine (HCT.out _ _ _ (HT.out.below (by repeat (first | exact br _ | assumption | refine ba ?_ | refine bd ?_ | refine below_drewN ?_ _ | refine bs ?_ (by (try simp) <;> omega))))).mono ?_
      rintro e w18 ⟨_, rfl, ⟨AV5, cV5, rfl, V5'⟩, g18⟩
      have S18 : Below w17.heap.size w17 w18 := bn (by repeat (first | exact br _ | assumption | refine ba ?_ | refine bd ?_ | refine below_drewN ?_ _ | refine bs ?_ (by (try simp) <;> omega))) g18
      replace HV := Lib.hid (HV.out.below S18)
      replace HT := Lib.hid (HT.out.below S18)
      replace V4 := Lib.hid (V4.out.below S18)
      have B18 : Below w.heap.size w w18 := bn B17 S18
      clear g18 S18
      have V5 := Lib.hid V5'
      clear V5'
      go_wp2_with fail
      refine (HJ.out _ _ _ _ _ (hB.below (by repeat (first | exact br _ | assumption | refine ba ?_ | refine bd ?_ | refine below_drewN ?_ _ | refine bs ?_ (by (try simp) <;> omega)))) (V4.out.below (by repeat (first | exact br _ | assumption | refine ba ?_ | refine bd ?_ | refine below_drewN ?_ _ | refine bs ?_ (by (try simp) <;> omega)))) (V5.out.below (by repeat (first | exact br _ | assumption | refine ba ?_ | refine bd ?_ | refine below_drewN ?_ _ | refine bs ?_ (by (try simp) <;> omega))))).mono ?_
      rintro e w19 ⟨_, rfl, ⟨AP, nP, cP, zP, rfl, KP⟩, g19⟩
      have S19 : Below w18.heap.size w18 w19 := bn (by repeat (first | exact br _ | assumption | refine ba ?_ | refine bd ?_ | refine below_drewN ?_ _ | refine bs ?_ (by (try simp) <;> omega))) g19
      replace HV := Lib.hid (HV.out.below S19)
      replace HT := Lib.hid (HT.out.below S19)
      replace V4 := Lib.hid (V4.out.below S19)
      replace V5 := Lib.hid (V5.out.below S19)
      have B19 : Below w.heap.size w w19 := bn B18 S19
      clear g19 S19
      clear V4 V5 HT
      go_upto_region 16 with fail
      go_cut [126] (fun sx wx => sx = .bool false ∧ Below w19.heap.size w19 wx)
      case first =>
        by_cases hz : zP = 0
        · have HK := Lib.hid (KP.out hz)
          have hz2 : (zP == 0) = true := by simp [hz]
          clear hz KP
          go_wp2_with fail
          refine (ck_walk (hB.below (by repeat (first | exact br _ | assumption | refine ba ?_ | refine bd ?_ | refine below_drewN ?_ _ | refine bs ?_ (by (try simp) <;> omega)))) (HK.out.below (by repeat (first | exact br _ | assumption | refine ba ?_ | refine bd ?_ | refine below_drewN ?_ _ | refine bs ?_ (by (try simp) <;> omega))))).mono ?_
          rintro e wx ⟨rfl, g⟩
          have BX : Below w19.heap.size w19 wx := bn (by repeat (first | exact br _ | assumption | refine ba ?_ | refine bd ?_ | refine below_drewN ?_ _ | refine bs ?_ (by (try simp) <;> omega))) g
          clear g
          go_wp2
          go_meet
          exact ⟨rfl, (by repeat (first | exact br _ | assumption | refine ba ?_ | refine bd ?_ | refine below_drewN ?_ _ | refine bs ?_ (by (try simp) <;> omega)))⟩
        · have hz2 : (zP == 0) = false := by simp [hz]
          clear KP
          go_wp2
          go_meet
          exact ⟨rfl, (by repeat (first | exact br _ | assumption | refine ba ?_ | refine bd ?_ | refine below_drewN ?_ _ | refine bs ?_ (by (try simp) <;> omega)))⟩
      case rest =>
        obtain ⟨rfl, g20⟩ := hcut
        obtain ⟨w20, hWW⟩ : ∃ x, x = wc := ⟨_, rfl⟩
        subst hWW
        clear KP
        have S20 := g20
        replace HV := Lib.hid (HV.out.below S20)
        have B20 : Below w.heap.size w w20 := bn B19 S20
        clear g20 S20
        by_cases h0 : n = 0
        · have i6 : ((n : Int) == 0) = true := by simp [h0]
          go_wp2
          go_ret
          exact ⟨rfl, (by repeat (first | exact br _ | assumption | refine ba ?_ | refine bd ?_ | refine below_drewN ?_ _ | refine bs ?_ (by (try simp) <;> omega)))⟩
        · have hn0 : 0 < n := by omega
          obtain ⟨k1, k2, k3, k4⟩ := HK.out hn0
          obtain ⟨bb, off, rfl, x0, x1, x2, x3, x4, x5, x6, x7, x8⟩ := ts_at HV.out k3
          dsimp only at x0 x1 x2 x3 x4 x5 x6 x7 x8
          have HD1 := Lib.hid (fun g cap base w => HD.out g cap base w hn0)
          have Q1 := Q1.out
          have Q2 := Q2.out
          have Q3 := Q3.out
          clear k3 HK HD
          have i0 : (0 : Int) < (n : Int) := by omega
          have i1 : (k : Int) < (n : Int) := by omega
          have i2 : (0 : Int) ≤ (k : Int) := by omega
          have i4 : (kb : Int) ≤ 255 := by omega
          have i6 : ((n : Int) == 0) = false := by simp; omega
          have i7 : (n : Int) ≤ 1000000 := by omega
          have i8 : IntKind.i64.wrap ((k : Int) + 1) = (k : Int) + 1 := by rw [IntKind.wrap_i64]; omega
          generalize a.x = ax at *
          generalize a.y = ay at *
          generalize a.z = az at *
          generalize b.x = bx at *
          generalize b.y = b_y at *
          generalize b.z = bz at *
          generalize c.x = cx at *
          generalize c.y = cy at *
          generalize c.z = cz at *
          go_wp2_with fail
          refine (HO.out _ _ _ (HV.out.below (by repeat (first | exact br _ | assumption | refine ba ?_ | refine bd ?_ | refine below_drewN ?_ _ | refine bs ?_ (by (try simp) <;> omega))))).mono ?_
          rintro e wa ⟨u, rfl, ho1, ga⟩
          have y0 : wa.cell? ⟨w20.heap.size, 0, none⟩ = some (.string ax) := bc ga (by go_simp)
          have y1 : wa.cell? ⟨w20.heap.size, 1, none⟩ = some (.string ay) := bc ga (by go_simp)
          have y2 : wa.cell? ⟨w20.heap.size, 2, none⟩ = some (.string az) := bc ga (by go_simp)
          have y3 : wa.cell? ⟨w20.heap.size, 3, none⟩ = some (.string bx) := bc ga (by go_simp)
          have y4 : wa.cell? ⟨w20.heap.size, 4, none⟩ = some (.string b_y) := bc ga (by go_simp)
          have y5 : wa.cell? ⟨w20.heap.size, 5, none⟩ = some (.string bz) := bc ga (by go_simp)
          have y6 : wa.cell? ⟨w20.heap.size, 6, none⟩ = some (.string cx) := bc ga (by go_simp)
          have y7 : wa.cell? ⟨w20.heap.size, 7, none⟩ = some (.string cy) := bc ga (by go_simp)
          have y8 : wa.cell? ⟨w20.heap.size, 8, none⟩ = some (.string cz) := bc ga (by go_simp)
          have BA : Below w.heap.size w wa := bn (by repeat (first | exact br _ | assumption | refine ba ?_ | refine bd ?_ | refine below_drewN ?_ _ | refine bs ?_ (by (try simp) <;> omega))) ga
          have hw0 : w.heap.size ≤ w20.heap.size := B20.size
          have HK2 := Lib.hid (HKD.out hn0)
          clear ga x0 x1 x2 x3 x4 x5 x6 x7 x8
          obtain ⟨g, cap1, hu, hgb, hgc⟩ := ho1.form hn0
          subst hu
          have hgb2 : w20.heap.size + 1 ≤ g := by have := hgb; simpa using this
          have HOW := Lib.hid ho1
          clear ho1
          go_wp2_with fail
          refine (HD1.out g cap1 (w20.heap.size + 1) wa (own_base HOW.out (by simp))).mono ?_
          rintro e wb ⟨rfl, hlo, gb⟩
          have z0 : wb.cell? ⟨w20.heap.size, 0, none⟩ = some (.string ax) := (gb.cell (by simp)).trans y0
          have z1 : wb.cell? ⟨w20.heap.size, 1, none⟩ = some (.string ay) := (gb.cell (by simp)).trans y1
          have z2 : wb.cell? ⟨w20.heap.size, 2, none⟩ = some (.string az) := (gb.cell (by simp)).trans y2
          have z3 : wb.cell? ⟨w20.heap.size, 3, none⟩ = some (.string bx) := (gb.cell (by simp)).trans y3
          have z4 : wb.cell? ⟨w20.heap.size, 4, none⟩ = some (.string b_y) := (gb.cell (by simp)).trans y4
          have z5 : wb.cell? ⟨w20.heap.size, 5, none⟩ = some (.string bz) := (gb.cell (by simp)).trans y5
          have z6 : wb.cell? ⟨w20.heap.size, 6, none⟩ = some (.string cx) := (gb.cell (by simp)).trans y6
          have z7 : wb.cell? ⟨w20.heap.size, 7, none⟩ = some (.string cy) := (gb.cell (by simp)).trans y7
          have z8 : wb.cell? ⟨w20.heap.size, 8, none⟩ = some (.string cz) := (gb.cell (by simp)).trans y8
          have BB : Below w.heap.size w wb := BA.trans (gb.mono (by omega))
          have HLO := Lib.hid hlo
          have zq : w20.heap.size < wb.heap.size := World.block_lt_of_cell? _ _ z0
          clear y0 y1 y2 y3 y4 y5 y6 y7 y8 gb hlo HOW HD1 BA
          cases b1
          · cases b2
            · cases b3
              · have HKF := Lib.hid (HK2.out rfl)
                clear HK2
                go_wp2_with fail
                refine (HKF.out _ _ (hB.below BB) HLO.out).mono ?_
                rintro e wd ⟨rfl, gd⟩
                have BD : Below w.heap.size w wd := bn BB gd
                clear gd
                go_wp2
                go_ret
                exact ⟨rfl, (by repeat (first | exact br _ | assumption | refine ba ?_ | refine bd ?_ | refine below_drewN ?_ _ | refine bs ?_ (by (try simp) <;> omega)))⟩
              · go_wp2
                go_ret
                exact ⟨rfl, (by repeat (first | exact br _ | assumption | refine ba ?_ | refine bd ?_ | refine below_drewN ?_ _ | refine bs ?_ (by (try simp) <;> omega)))⟩
            · go_wp2
              go_ret
              exact ⟨rfl, (by repeat (first | exact br _ | assumption | refine ba ?_ | refine bd ?_ | refine below_drewN ?_ _ | refine bs ?_ (by (try simp) <;> omega)))⟩
          · go_wp2
            go_ret
            exact ⟨rfl, (by repeat (first | exact br _ | assumption | refine ba ?_ | refine bd ?_ | refine below_drewN ?_ _ | refine bs ?_ (by (try simp) <;> omega)))⟩
end Go.Proofs.YtbnbaokamccmjaaGreatDoor

/- law of chapter 12: MeshCloses: whatever the input is, it returns true; the row and the card. -/
set_option linter.unusedVariables false
set_option linter.unusedSimpArgs false
namespace Go.Proofs.YtbnbaokamccmjaaGreatDoor
open Go Go.ChangeShapes Go.WideShapes Go.ChangeAt Go.RowKit Go.Joins
open Go.ChangeMaps (open_string shut_string)

/-! ### The points of a prism -/
section
variable {α : Type}
theorem fanFrom_mem (a : α) : ∀ (r : List α) (t : Tr α), t ∈ fanFrom a r → t.a = a ∧ t.b ∈ r ∧ t.c ∈ r
  | b :: c :: r, t, h => by
    have h2 : t = ⟨a, b, c⟩ ∨ t ∈ fanFrom a (c :: r) := List.mem_cons.1 h
    rcases h2 with rfl | h2
    · exact ⟨rfl, by simp, by simp⟩
    · obtain ⟨h3, h4, h5⟩ := fanFrom_mem a (c :: r) t h2
      exact ⟨h3, List.mem_cons_of_mem _ h4, List.mem_cons_of_mem _ h5⟩
  | [], t, h => by cases h
  | [_], t, h => by cases h
theorem fanL_mem {l : List α} {t : Tr α} (h : t ∈ fanL l) : t.a ∈ l ∧ t.b ∈ l ∧ t.c ∈ l := by
  cases l with
  | nil => cases h
  | cons a r =>
    obtain ⟨h1, h2, h3⟩ := fanFrom_mem a r t h
    exact ⟨by rw [h1]; simp, List.mem_cons_of_mem _ h2, List.mem_cons_of_mem _ h3⟩
theorem sides_mem {l q : List α} {n : Nat} {t : Tr α} : ∀ k, t ∈ sides l q n k → (t.a ∈ l ∨ t.a ∈ q) ∧ (t.b ∈ l ∨ t.b ∈ q) ∧ (t.c ∈ l ∨ t.c ∈ q)
  | 0, h => by cases h
  | k + 1, h => by
    rw [sides, List.mem_append] at h
    rcases h with h | h
    · exact sides_mem k h
    · split at h
      · rename_i a b c d h1 h2 h3 h4
        have m1 := List.mem_of_getElem? h1
        have m2 := List.mem_of_getElem? h2
        have m3 := List.mem_of_getElem? h3
        have m4 := List.mem_of_getElem? h4
        simp only [List.mem_cons, List.not_mem_nil, or_false] at h
        rcases h with rfl | rfl
        · exact ⟨.inl m1, .inl m2, .inr m3⟩
        · exact ⟨.inl m1, .inr m3, .inr m4⟩
      · cases h
theorem prism_mem {l q : List α} {t : Tr α} (h : t ∈ prismL l q) : (t.a ∈ l ∨ t.a ∈ q) ∧ (t.b ∈ l ∨ t.b ∈ q) ∧ (t.c ∈ l ∨ t.c ∈ q) := by
  unfold prismL at h
  rw [List.mem_append, List.mem_append] at h
  rcases h with (h | h) | h
  · obtain ⟨s, hs, rfl⟩ := List.mem_map.1 h
    obtain ⟨h1, h2, h3⟩ := fanL_mem hs
    exact ⟨.inl h1, .inl h3, .inl h2⟩
  · obtain ⟨h1, h2, h3⟩ := fanL_mem h
    exact ⟨.inr h1, .inr h2, .inr h3⟩
  · exact sides_mem _ h
theorem prism_length {l q : List α} (hq : q.length = l.length) : (prismL l q).length ≤ 4 * l.length := by
  unfold prismL
  rw [List.length_append, List.length_append, List.length_map, fanL_length, fanL_length, sides_length l q l.length hq rfl _ (Nat.le_refl _)]
  omega
end

/-! ### Solids that Check lets pass -/
theorem ck_of {w : World} {v : Value} {L : List (Tr V3)} (h : Ts w v (L.map txt)) (hl : leT L 1000000) (hn : L.length ≤ 512) (ho : openT L = false) : CK w v :=
  ⟨L.map txt, h, chk_ok hn ho, tle_txt hl (by omega)⟩
/-- Texts of vectors that are valid are those of vectors. -/
theorem vecs_of : ∀ {l : List SV}, l.all isVec = true → ∃ ps : List V3, l = tvs ps
  | [], _ => ⟨[], rfl⟩
  | s :: l, h => by
    rw [List.all_cons, Bool.and_eq_true] at h
    obtain ⟨ps, rfl⟩ := vecs_of h.2
    obtain ⟨p, rfl⟩ := isVec_iff.1 h.1
    exact ⟨p :: ps, rfl⟩
theorem moved_len {ps : List V3} {d : V3} : (moved ps d).length = ps.length := List.length_map _
theorem prism_ck {w : World} {v : Value} {ps : List V3} {d : V3} (h : Ts w v (prismL (tvs ps) (tvs (moved ps d)))) (h3 : 3 ≤ ps.length) (hm : ps.length ≤ 100) (hs : ∀ p ∈ ps, p.le 1000) (hd : d.le 1000) : CK w v := by
  have e : prismL (tvs ps) (tvs (moved ps d)) = (prismL ps (moved ps d)).map txt := prismL_map txv ps (moved ps d)
  rw [e] at h
  refine ck_of h ?_ (by have := prism_length (l := ps) (q := moved ps d) moved_len; omega) (prism_closed ps (moved ps d) (by omega) moved_len)
  have hp : ∀ p, p ∈ ps ∨ p ∈ moved ps d → p.le 1000000 := by
    intro p hp
    rcases hp with hp | hp
    · exact (hs p hp).mono (by omega)
    · obtain ⟨o, ho, rfl⟩ := List.mem_map.1 hp
      exact V3.le_add (hs o ho) hd (by omega)
  intro t ht
  obtain ⟨m1, m2, m3⟩ := prism_mem ht
  exact ⟨hp _ m1, hp _ m2, hp _ m3⟩
/-- A result of Prism, Move or Join, as the walk wants it. -/
theorem gen_bad {f : FuncId} {args : Array Value} {w : World} {u : Int} (h0 : u ≠ 0) (h : Calls Tryz.prog f args w fun e w' => e = .returned (.tuple #[.slice none 0 0, .int .i64 u]) ∧ Below w.heap.size w w') :
    Calls Tryz.prog f args w (Ret fun q w' => (∃ A n c z, q = .tuple #[.slice A n c, .int .i64 z] ∧ Hid (z = 0 → CK w' (.slice A n c))) ∧ Below w.heap.size w w') := by
  refine h.mono ?_
  rintro e w' ⟨rfl, g⟩
  exact ⟨_, rfl, ⟨none, 0, 0, u, rfl, Lib.hid (fun h => absurd h h0)⟩, g⟩
theorem gen_ok {f : FuncId} {args : Array Value} {w : World} {l : List TV} (hk : ∀ w' u, Ts w' u l → CK w' u) (h : Calls Tryz.prog f args w (Ret fun r w' => (∃ u, r = .tuple #[u, .int .i64 0] ∧ Ts w' u l) ∧ Below w.heap.size w w')) :
    Calls Tryz.prog f args w (Ret fun q w' => (∃ A n c z, q = .tuple #[.slice A n c, .int .i64 z] ∧ Hid (z = 0 → CK w' (.slice A n c))) ∧ Below w.heap.size w w') := by
  refine h.mono ?_
  rintro e w' ⟨r, he, ⟨u, hr, hu⟩, hg⟩
  obtain ⟨A, c, hA, _⟩ := hu.open
  subst hA
  exact ⟨r, he, ⟨A, _, c, 0, hr, Lib.hid (fun _ => hk _ _ hu)⟩, hg⟩
theorem clone_own (v : Value) (l : List TV) (n : Nat) (hn : l.length = n) (hm : n ≤ 1000000) (w : World) (hv : Ts w v l) :
    Calls Tryz.prog 22 #[v] w (Ret fun u w' => w'.ownsRow w.heap.size 43 9 u n (tcs l) ∧ Below w.heap.size w w') := by
  have := cloneS_walk v l w hv (by omega)
  rwa [hn] at this
theorem sv_ne {s t : SV} (h : (s.x.toList == t.x.toList && (s.y.toList == t.y.toList && s.z.toList == t.z.toList)) = false) : s ≠ t := by
  rw [sv_eq] at h
  exact of_decide_eq_false h
/-- Without a triangle of three different points a closed solid is open. -/
theorem without_open {l : List TV} {k : Nat} {t : TV} (hg : l[k]? = some t) (hz : chkC l = 0) (h1 : t.a ≠ t.b) (h2 : t.b ≠ t.c) (h3 : t.c ≠ t.a) : chkC (l.take k ++ l.drop (k + 1)) = 17 := by
  obtain ⟨hn, hv, ho⟩ := chkC_zero hz
  have hk := (List.getElem?_eq_some_iff.1 hg).1
  refine chkC_open (by rw [List.length_append, List.length_take, List.length_drop]; omega) ?_ (open_without hg ho h1 h2 h3)
  rw [List.all_append, Bool.and_eq_true, List.all_eq_true, List.all_eq_true]
  rw [List.all_eq_true] at hv
  exact ⟨fun x hx => hv x (List.mem_of_mem_take hx), fun x hx => hv x (List.mem_of_mem_drop hx)⟩
theorem without_tle {l : List TV} {k m : Nat} (h : tle l m) : tle (l.take k ++ l.drop (k + 1)) m := by
  intro t ht
  rw [List.mem_append] at ht
  exact ht.elim (fun h1 => h t (List.mem_of_mem_take h1)) fun h1 => h t (List.mem_of_mem_drop h1)
theorem append_chk {l m : List TV} (h : chkC l = 0) (h2 : chkC m = 0) (hn : l.length + m.length ≤ 512) : chkC (l ++ m) = 0 := by
  obtain ⟨_, hv, ho⟩ := chkC_zero h
  obtain ⟨_, hv2, ho2⟩ := chkC_zero h2
  exact chkC_ok (by rw [List.length_append]; omega) (by rw [List.all_append, hv, hv2]; rfl) (closed_append ho ho2)
theorem append_tle {l m : List TV} {k : Nat} (h : tle l k) (h2 : tle m k) : tle (l ++ m) k := by
  intro t ht
  rw [List.mem_append] at ht
  exact ht.elim (h t) (h2 t)
/-- What Prism, Move and Join return, whatever they get. -/
theorem prism_gen (v : Value) (lv : List SV) (d : SV) (w : World) (hB : Bw w) (hv : Vs w v lv) (hf : lv.all isFew = true) (hn : lv.length ≤ 8) (hd : isFew d = true) :
    Calls Tryz.prog 15 #[v, d.val] w (Ret fun q w' => (∃ A n c z, q = .tuple #[.slice A n c, .int .i64 z] ∧ Hid (z = 0 → CK w' (.slice A n c))) ∧ Below w.heap.size w w') := by
  have hs : ∀ s ∈ lv, s.le 40000000 := fun s hs => few_sv (List.all_eq_true.1 hf s hs)
  by_cases hz : polC lv (4 * (lv.length : Int) - 4) = 0
  · cases h0 : isVec d with
    | false => exact gen_bad (by decide) (mPrism_arg v lv d w hB hv hs (few_sv hd) (by omega) hz h0)
    | true =>
      have h3 : 3 ≤ lv.length ∧ lv.all isVec = true := by
        unfold polC at hz
        split at hz
        · cases hz
        · split at hz
          · cases hz
          · split at hz
            · exact ⟨by omega, by assumption⟩
            · cases hz
      obtain ⟨D, rfl⟩ := isVec_iff.1 h0
      obtain ⟨ps, rfl⟩ := vecs_of h3.2
      rw [tvs_length] at hn h3
      have hp : ∀ p ∈ ps, p.le 20 := fun p hp => few_le (List.all_eq_true.1 hf (txv p) (List.mem_map_of_mem hp))
      have hD := few_le hd
      refine gen_ok (l := prismL (tvs ps) (tvs (moved ps D))) (fun w' u h => prism_ck h h3.1 (by omega) (fun p q => (hp p q).mono (by omega)) (hD.mono (by omega))) ?_
      exact prism_walk v ps D w hB hv (fun p q => (hp p q).mono (by omega)) (hD.mono (by omega)) h3.1 (by omega)
  · exact gen_bad hz (mPrism_bad v lv d.x d.y d.z w hB hv hs (by omega) _ rfl hz)
theorem move_gen (v : Value) (l : List TV) (d : SV) (w : World) (hB : Bw w) (hv : Ts w v l) (hf : fewT l = true) (hz : chkC l = 0) (hd : isFew d = true) :
    Calls Tryz.prog 21 #[v, d.val] w (Ret fun q w' => (∃ A n c z, q = .tuple #[.slice A n c, .int .i64 z] ∧ Hid (z = 0 → CK w' (.slice A n c))) ∧ Below w.heap.size w w') := by
  cases h0 : isVec d with
  | false => exact gen_bad (by decide) (mMove_bad v l d w hB hv (few_tle hf) (few_sv hd) hz h0)
  | true =>
    obtain ⟨D, rfl⟩ := isVec_iff.1 h0
    obtain ⟨hn, hval, hop⟩ := chkC_zero hz
    obtain ⟨L, rfl⟩ := solid_of hval
    rw [open_txt] at hop
    rw [List.length_map] at hn
    have l20 := few_leT hf
    have d20 := few_le hd
    have ld := mov_le l20 d20 (Nat.le_refl (20 + 20 + 1))
    refine gen_ok (l := (L.map (movT D)).map txt) (fun w' u h => ck_of h (le_up ld (by omega)) (by rw [List.length_map]; exact hn) (mov_closed D hop)) ?_
    exact mMove_ok v L D w hB hv (le_up l20 (by omega)) (d20.mono (by omega)) hz
theorem join_gen (v v2 : Value) (l l2 : List TV) (w : World) (hB : Bw w) (hv : Ts w v l) (hv2 : Ts w v2 l2) (hf : tle l 40000000) (hf2 : tle l2 40000000) (hz : chkC l = 0) :
    Calls Tryz.prog 28 #[v, v2] w (Ret fun q w' => (∃ A n c z, q = .tuple #[.slice A n c, .int .i64 z] ∧ Hid (z = 0 → CK w' (.slice A n c))) ∧ Below w.heap.size w w') := by
  by_cases hz2 : chkC l2 = 0
  · by_cases hn : l.length + l2.length ≤ 512
    · exact gen_ok (fun w' u h => ⟨_, h, append_chk hz hz2 hn, append_tle hf hf2⟩) (mJoin_ok v v2 l l2 w hB hv hv2 hf hf2 hz hz2 hn)
    · exact gen_bad (by decide) (mJoin_large v v2 l l2 w hB hv hv2 hf hf2 hz hz2 (by omega))
  · exact gen_bad hz2 (mJoin_second v v2 l l2 _ w hB hv hv2 hf hf2 hz rfl hz2)

/-- THE LAW's WALK, WHATEVER THE INPUT IS. -/
theorem meshCloses_walk (v0 : Value) (l : List TV) (v1 : Value) (lt : List TV) (v2 : Value) (lv : List SV) (d : SV) (kb : Nat) (hkb : kb ≤ 255) (w : World) (hB : Bw w) (hv : Ts w v0 l) (hv2 : Ts w v1 lt) (hv3 : Vs w v2 lv) :
    Calls Tryz.prog 9 #[v0, v1, v2, d.val, .int .u8 kb] w fun e w' => e = .returned (.bool true) ∧ Below w.heap.size w w' := by
  obtain ⟨A, cap, rfl, -, -, -⟩ := hv.open
  obtain ⟨A2, cap2, rfl, -, -, -⟩ := hv2.open
  obtain ⟨A3, cap3, rfl, -, -, -⟩ := hv3.open
  have h20 := fun w (h : Ts w (.slice A l.length cap) l) => refFew_walk _ l w h
  have h21 := fun w (h : Ts w (.slice A2 lt.length cap2) lt) => refFew_walk _ lt w h
  have h10 := fun w (h : Vs w (.slice A3 lv.length cap3) lv) => few2_walk _ lv w h
  have h11 : ∀ p w, Bk w p [.string d.x, .string d.y, .string d.z] → Calls Tryz.prog 11 #[.slice (some ⟨p, 0, none⟩) 1 1] w fun e w' => e = .returned (.bool (isFew d)) ∧ Below w.heap.size w w' := fun p w h => by
    have := few_walk _ [d] w (vs_of_bk h rfl (by simp)) (by simp)
    simpa using this
  cases r1 : fewT l with
  | false =>
    rw [r1] at h20
    exact closes_out1 A A2 A3 _ cap _ cap2 _ cap3 l lt lv d.x d.y d.z kb w hB hv hv2 hv3 h20
  | true =>
  rw [r1] at h20
  cases r2 : fewT lt with
  | false =>
    rw [r2] at h21
    exact closes_out2 A A2 A3 _ cap _ cap2 _ cap3 l lt lv d.x d.y d.z kb w hB hv hv2 hv3 h20 h21
  | true =>
  rw [r2] at h21
  cases r3 : lv.all isFew with
  | false =>
    rw [r3] at h10
    exact closes_out3 A A2 A3 _ cap _ cap2 _ cap3 l lt lv d.x d.y d.z kb w hB hv hv2 hv3 h20 h21 h10
  | true =>
  rw [r3] at h10
  by_cases hn8 : 8 < lv.length
  · exact closes_out4 A A2 A3 _ cap _ cap2 _ cap3 l lt lv d.x d.y d.z kb w hB hv hv2 hv3 h20 h21 h10 (by omega)
  have hr : (lv.length : Int) ≤ 8 := by omega
  cases r5 : isFew d with
  | false =>
    rw [r5] at h11
    exact closes_out5 A A2 A3 _ cap _ cap2 _ cap3 l lt lv d.x d.y d.z kb w hB hv hv2 hv3 h20 h21 h10 hr h11
  | true =>
  rw [r5] at h11
  have hcv := fun w (h : Vs w (.slice A3 lv.length cap3) lv) => cloneV_sl _ lv lv.length rfl (by omega) w h
  have hp := fun (A : Option Addr) (c : Nat) (w : World) (hB : Bw w) (h : Vs w (.slice A lv.length c) lv) => prism_gen _ lv d w hB h r3 (by omega) r5
  have h32 := fun w hB (h : Ts w (.slice A l.length cap) l) => check_walk _ l w hB h (few_tle r1)
  by_cases hz : chkC l = 0
  case neg => exact closes_out6 A A2 A3 _ cap _ cap2 _ cap3 l lt lv d.x d.y d.z kb w hB hv hv2 hv3 hr h20 h21 h10 h11 hcv hp (chkC l) h32 (by simp [hz])
  rw [hz] at h32
  have hl513 := few_len r1
  have ht513 := few_len r2
  obtain ⟨hlen, hval, hop⟩ := chkC_zero hz
  obtain ⟨L, hL⟩ := solid_of hval
  have hLn : L.length = l.length := by rw [hL, List.length_map]
  have l20 : leT L 20 := few_leT (by rw [← hL]; exact r1)
  have hopL : openT L = false := by rw [hL, open_txt] at hop; exact hop
  have cm := chk_ok (L := L.map mirT) (by rw [List.length_map]; omega) (mir_closed hopL)
  have cr := chk_ok (L := L.map Tr.turn) (by rw [List.length_map]; omega) (closed_turn hopL)
  have nm : ((L.map mirT).map txt).length = l.length := by simp [hLn]
  have nr : ((L.map Tr.turn).map txt).length = l.length := by simp [hLn]
  obtain ⟨k, a, b, c, hk⟩ : ∃ (k : Nat) (a b c : SV), 0 < l.length → k < l.length ∧ Int.tmod (kb : Int) (l.length : Int) = (k : Int) ∧ l[k]? = some ⟨a, b, c⟩ ∧ l.length ≤ 1000000 := by
    rcases Nat.eq_zero_or_pos l.length with h0 | h0
    · exact ⟨0, d, d, d, fun h => by omega⟩
    · have hlt : kb % l.length < l.length := Nat.mod_lt _ h0
      exact ⟨kb % l.length, _, _, _, fun _ => ⟨hlt, rfl, (List.getElem?_eq_getElem hlt), by omega⟩⟩
  refine closes_main A A2 A3 _ cap _ cap2 _ cap3 l lt lv d.x d.y d.z kb w hB hv hv2 hv3 hr h20 h21 h10 h11 hcv hp ((L.map mirT).map txt) ((L.map Tr.turn).map txt) (l.take k ++ l.drop (k + 1)) k a b c _ _ _ h32 ?_ ?_ ?_ ?_ ?_ ?_ ?_ ?_ hk hkb rfl rfl rfl ?_ ?_ ?_
  · exact fun A cap w h => clone_sl _ l _ rfl (by omega) w h
  · exact fun A cap w h => clone_sl _ lt _ rfl (by omega) w h
  · refine fun A cap w hB h => to_sl nr ?_
    have := mReverse_ok _ l w hB h (few_tle r1) hz
    rw [hL, turn_txt] at this
    rw [hL]
    exact this
  · refine fun A cap w hB h => to_sl nm ?_
    rw [hL] at h hz ⊢
    exact mMirror_ok _ L w hB h (le_up l20 (by omega)) hz
  · refine fun A cap w hB h => ?_
    have := check_walk _ _ w hB h (tle_txt (turn_le l20) (by omega))
    rwa [cr] at this
  · refine fun A cap w hB h => ?_
    have := check_walk _ _ w hB h (tle_txt (mir_le l20) (by omega))
    rwa [cm] at this
  · exact fun A cap w hB h => move_gen _ l d w hB h r1 hz r5
  · exact fun A cap A' cap' w hB h h2 => join_gen _ _ l lt w hB h h2 (few_tle r1) (few_tle r2) hz
  · exact fun A cap w h => clone_own _ l _ rfl (by omega) w h
  · intro g cap base w h0 ho
    exact delete_walk g _ cap k base l w rfl (hk h0).1 (by omega) ho
  · intro h0 hb v w hB h
    rw [Bool.or_eq_false_iff, Bool.or_eq_false_iff] at hb
    have hg := (hk h0).2.2.1
    have := check_walk v _ w hB h (without_tle (few_tle r1))
    rwa [without_open hg hz (sv_ne hb.1) (sv_ne hb.2.1) (sv_ne hb.2.2)] at this
theorem wf_u8 {z : Int} (h : (Lit.int .u8 z).wf = true) : ∃ k : Nat, z = k ∧ k ≤ 255 := by
  simp only [Lit.wf, Bool.and_eq_true, decide_eq_true_eq] at h
  have h1 : (0 : Int) ≤ z := h.1
  have h2 : z ≤ 255 := h.2
  exact ⟨z.toNat, by omega, by omega⟩

/-! ### The row -/
set_option maxRecDepth 100000 in
theorem closes_contract (H : Type) (enc : TypeId × Value → H) (W : World) (base : Nat) (args : Array Value) (ds gs : List (DataW H)) (before : List MemPlace)
    (hval : ∀ (j : Nat) t v, Tryz.f9.params[j]? = some t → args[j]? = some v → Value.okWide Tryz.prog W .any base t v)
    (hW : DataW.Whole enc Tryz.prog Tryz.f9.params.toList Rows.meshClosesSpec.vars false W args.toList ds gs before) (hL : laidMetH Tryz.prog Rows.meshClosesRow.laid W) (hS : W.ShapedOpen Tryz.prog) :
    Calls Tryz.prog 9 args W fun e W' => ∃ v, e = .returned v ∧ Rows.meshClosesSpec.post enc Tryz.prog Tryz.f9 false true false false W args v W' := by
  have hW' := hW
  obtain ⟨p, q, hA0, hV, rfl, hfz, hnd⟩ := hW
  have hA : DataW.TrodAll enc Tryz.prog W 0 (fun _ => true) true Tryz.f9.params.toList args.toList ds p := hA0
  rw [Tryz.params9] at hA hval
  clear hA0
  obtain ⟨v0, a0, d0, e0, p0, q0, g0, rfl, rfl, h0, hA0⟩ := trodAll_cons hA
  obtain ⟨v1, a1, d1, e1, p1, q1, rfl, rfl, rfl, h1, hA1⟩ := trodAll_cons hA0
  obtain ⟨v2, a2, d2, e2, p2, q2, rfl, rfl, rfl, h2, hA2⟩ := trodAll_cons hA1
  obtain ⟨v3, a3, d3, e3, p3, q3, rfl, rfl, rfl, h3, hA3⟩ := trodAll_cons hA2
  obtain ⟨v4, a4, d4, e4, p4, q4, rfl, rfl, rfl, h4, hA4⟩ := trodAll_cons hA3
  obtain ⟨rfl, rfl, rfl⟩ := trodAll_nil hA4
  obtain ⟨al⟩ := args
  change al = _ at g0
  subst g0
  obtain ⟨rfl, rfl⟩ := trodVars_none hV
  obtain ⟨l0, hl0⟩ := open_solid (hval 0 33 v0 rfl rfl) h0
  obtain ⟨l1, hl1⟩ := open_solid (hval 1 33 v1 rfl rfl) h1
  obtain ⟨l2, hl2⟩ := open_vecs (hval 2 22 v2 rfl rfl) h2
  have h3k := h3
  obtain ⟨b30, b31, b32, z30, z31, z32, k3, rfl, rfl, rfl, hz30, hz31, hz32⟩ := open_agg3 Tryz.underlying25 (by kernel_rfl) (by kernel_rfl) (hval 3 25 v3 rfl rfl) h3
  obtain ⟨r30, f30, rfl, x30⟩ := DataW.trod_string Tryz.underlying23 hz30
  obtain ⟨r31, f31, rfl, x31⟩ := DataW.trod_string Tryz.underlying23 hz31
  obtain ⟨r32, f32, rfl, x32⟩ := DataW.trod_string Tryz.underlying23 hz32
  simp at f30 f31 f32
  subst f30 f31 f32
  obtain ⟨z4, rfl, rfl, rfl, hw4⟩ := open_int Tryz.underlying5 (hval 4 5 v4 rfl rfl) h4
  obtain ⟨k4, rfl, hk4⟩ := wf_u8 hw4
  have hlt0 : ∀ x ∈ p0, x.block < W.heap.size := fun x hx => hW'.lt x (by simp [hx])
  have hlt1 : ∀ x ∈ p1, x.block < W.heap.size := fun x hx => hW'.lt x (by simp [hx])
  have hlt2 : ∀ x ∈ p2, x.block < W.heap.size := fun x hx => hW'.lt x (by simp [hx])
  refine (meshCloses_walk v0 l0 v1 l1 v2 l2 ⟨r30, r31, r32⟩ k4 hk4 W (bw_of hL hS) hl0 hl1 hl2).mono fun e W' ⟨he, hg⟩ => ?_
  subst he
  refine ⟨_, rfl, _, _, _, [], (p0 ++ (p1 ++ (p2 ++ ([] ++ ([] ++ []))))), [], hW', ?_, ?_, rfl, hg.frame _, fun h => by cases h⟩
  · exact trodAll_cons_mk (shut_bool Tryz.underlying4 _) trodAll_mk0
  · exact (trodAll_cons_mk (Below.trod laidOut (by kernel_rfl) (of_decide_eq_true (by kernel_rfl)) h0 hg hlt0) (trodAll_cons_mk (Below.trod laidOut (by kernel_rfl) (of_decide_eq_true (by kernel_rfl)) h1 hg hlt1) (trodAll_cons_mk (Below.trod laidOut (by kernel_rfl) (of_decide_eq_true (by kernel_rfl)) h2 hg hlt2) (trodAll_cons_mk (vec_reads W' _ _ _ r30 r31 r32 x30 x31 x32) (trodAll_cons_mk (shut_int Tryz.underlying5 hw4) trodAll_mk0)))))

theorem closes_laid (os : Os) : laidMet Tryz.prog Rows.meshClosesRow.laid ((laidWorld os).forCall (fun _ _ => 0) ⟨#[], #[noSol, noSol, noSol, noVec, .int .u8 0], []⟩).memory :=
  laidMet_of_run' 8 (by kernel_rfl) (by kernel_rfl)
theorem closes_reads (os : Os) {H : Type} (enc : TypeId × Value → H) : ∃ places, DataW.whole enc Tryz.prog ((laidWorld os).forCall (fun _ _ => 0) ⟨#[], #[noSol, noSol, noSol, noVec, .int .u8 0], []⟩).memory Tryz.f9.params.toList Rows.meshClosesSpec.vars false (#[noSol, noSol, noSol, noVec, .int .u8 0] : Array Value).toList 8 = some ([.nil, .nil, .nil, .agg [.lit (.string []), .lit (.string []), .lit (.string [])], .lit (.int .u8 0)], [], places) :=
  ⟨[], by kernel_rfl⟩

set_option maxRecDepth 100000 in
theorem closes_lifted (os : Os) (started : os.Started) (H : Type) (enc : TypeId × Value → H) (F : Stop.Interp) :
    ReturnsInHanded {} Tryz.checked os 9 .any ((OpenSpec.ofChange Rows.meshClosesSpec).preRow enc Tryz.prog Tryz.f9 Rows.meshClosesRow.domain false Rows.meshClosesRow.laid) (((OpenSpec.ofChange Rows.meshClosesSpec).at F).post enc Tryz.prog Tryz.f9 false true false false) := by
  obtain ⟨places, hx⟩ := closes_reads os enc
  refine returnsInHanded_of_row (C := Tryz.checked) (s := OpenSpec.ofChange Rows.meshClosesSpec) own started (by kernel_rfl) Tryz.func9
    (witness_row_at (enc := enc) (C := Tryz.checked) false (laidWorld os) #[noSol, noSol, noSol, noVec, .int .u8 0] rfl (by kernel_rfl) (by kernel_rfl) (by kernel_rfl)
      (OpenSpec.preRow_of_cond 8 hx (by kernel_rfl) (fun k hk => by cases hk) (by kernel_rfl) (closes_laid os))) ?_
  intro W base args ds gs before hval hW _ _ _ hL hS _
  exact closes_contract H enc W base args ds gs before hval hW hL hS

theorem closes_said : Rows.MeshClosesSaid :=
  OpenClaim.holds_of_cond 9 Tryz.f9 rfl rfl rfl rfl rfl rfl rfl ⟨rfl, rfl, rfl, rfl, rfl⟩ rfl rfl rfl rfl rfl (by kernel_rfl) Tryz.func9 (by kernel_rfl)
    (of_decide_eq_true (by kernel_rfl)) (by unfold Func.isWrapper; first | (rw [if_pos (by decide +kernel)]; kernel_rfl) | (rw [if_neg (by decide +kernel)]; exact ⟨rfl, rfl⟩))
    (fun os started H enc _ F => by rw [OpenClaim.pre_eq_preRow]; exact closes_lifted os started H enc F)

theorem closes_plain (f : FuncId) (fn : Func) (hf : Tryz.pinned.checked.prog.funcNamed "garboard/garboardlaw12.MeshCloses" = some f) (hfn : Tryz.pinned.checked.prog.funcs[f]? = some fn) :
    true = Tryz.pinned.checked.prog.looks [] ∧ ∀ (j : Nat) t, fn.params[j]? = some t → Tryz.pinned.checked.prog.wantsStandIn t = false := by
  obtain rfl : f = 9 := Option.some.inj ((show Tryz.prog.funcNamed "garboard/garboardlaw12.MeshCloses" = some 9 by kernel_rfl).symm.trans hf) |>.symm
  obtain rfl : fn = Tryz.f9 := (Option.some.inj (Tryz.func9.symm.trans hfn)).symm
  refine ⟨by kernel_rfl, fun j t ht => ?_⟩
  rw [Tryz.params9] at ht
  have : t = 33 ∨ t = 33 ∨ t = 22 ∨ t = 25 ∨ t = 5 := by simpa using Array.mem_of_getElem? ht
  rcases this with rfl | rfl | rfl | rfl | rfl
  · exact (show Tryz.prog.wantsStandIn 33 = false by kernel_rfl)
  · exact (show Tryz.prog.wantsStandIn 33 = false by kernel_rfl)
  · exact (show Tryz.prog.wantsStandIn 22 = false by kernel_rfl)
  · exact (show Tryz.prog.wantsStandIn 25 = false by kernel_rfl)
  · exact (show Tryz.prog.wantsStandIn 5 = false by kernel_rfl)

/-- THE CARD. -/
theorem meshCloses_holds : Rows.MeshClosesCardSaid :=
  Claim7.holds_tied_plain_at .later [] _ _ _ _ closes_said (fun _ h => by cases h) (by kernel_rfl) (fun _ h => by cases h) meshCloses_row_tie rfl ⟨rfl, rfl⟩ (by kernel_rfl) rfl closes_plain (by kernel_rfl)
#print axioms meshCloses_holds
end Go.Proofs.YtbnbaokamccmjaaGreatDoor
