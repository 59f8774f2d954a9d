/- law of chapter 12: MeshOrder: the walk. -/
import Derived.Test.YtbnbaokamccmjaaGreatDoorKG
set_option linter.unusedVariables false
set_option linter.unusedSimpArgs false
namespace Go.Proofs.YtbnbaokamccmjaaGreatDoor
open Go Go.RowKit

theorem own_nines {w : World} {base g n cap m : Nat} {l : List TV} {t : TV} (h : w.ownsRow base 43 9 (.slice (some ⟨g, 0, none⟩) n cap) n (tcs l)) (hp : l[m]? = some t) (hm : m < n) :
    w.cell? ⟨g, m * 9, none⟩ = some (.string t.a.x) ∧ w.cell? ⟨g, m * 9 + 1, none⟩ = some (.string t.a.y) ∧ w.cell? ⟨g, m * 9 + 2, none⟩ = some (.string t.a.z) ∧
    w.cell? ⟨g, m * 9 + 3, none⟩ = some (.string t.b.x) ∧ w.cell? ⟨g, m * 9 + 4, none⟩ = some (.string t.b.y) ∧ w.cell? ⟨g, m * 9 + 5, none⟩ = some (.string t.b.z) ∧
    w.cell? ⟨g, m * 9 + 6, none⟩ = some (.string t.c.x) ∧ w.cell? ⟨g, m * 9 + 7, none⟩ = some (.string t.c.y) ∧ w.cell? ⟨g, m * 9 + 8, none⟩ = some (.string t.c.z) :=
  have k := own_nine h hp hm
  ⟨k 0 _ rfl, k 1 _ rfl, k 2 _ rfl, k 3 _ rfl, k 4 _ rfl, k 5 _ rfl, k 6 _ rfl, k 7 _ rfl, k 8 _ rfl⟩
/-- The bit that tells whether triangle i is turned. -/
def turnBit (tz i : Nat) : Bool := bits BinOp.and IntKind.u8 ((tz : Int) / 2 ^ (i % 8)) 1 == 1

set_option maxHeartbeats 4000000 in
set_option maxRecDepth 100000 in
theorem order_out1 (A : Option Addr) (n cap : Nat) (l : List TV) (kb tz : Nat) (w : World) (hB : Bw w) (hv : Ts w (.slice A n cap) l)
    (h20 : ∀ w, Ts w (.slice A n cap) l → Calls Tryz.prog 20 #[.slice A n cap] w fun e w' => e = .returned (.bool false) ∧ Below w.heap.size w w') :
    Calls Tryz.prog 5 #[.slice A n cap, .int .u8 kb, .int .u8 tz] w fun e w' => e = .returned (.bool true) ∧ Below w.heap.size w w' := by
  have HV := Lib.hid hv
  clear hv
  have H0 := Lib.hid (fun w hB => awake_walk w hB)
  have H20 := Lib.hid h20
  clear h20
  go_enter Tryz.func5, Tryz.ntmps5
  go_wp2_with fail
  refine (H0.out _ (hB.below (by repeat (first | exact br _ | assumption | refine ba ?_ | refine bd ?_ | refine below_drewN ?_ _ | refine bs ?_ (by (try simp) <;> omega))))).mono ?_
  rintro e w1 ⟨rfl, g1⟩
  have S1 : Below w.heap.size w w1 := bn (by repeat (first | exact br _ | assumption | refine ba ?_ | refine bd ?_ | refine below_drewN ?_ _ | refine bs ?_ (by (try simp) <;> omega))) g1
  replace HV := Lib.hid (HV.out.below S1)
  have B1 : Below w.heap.size w w1 := S1
  clear g1
  go_wp2_with fail
  refine (H20.out _ (HV.out.below (by repeat (first | exact br _ | assumption | refine ba ?_ | refine bd ?_ | refine below_drewN ?_ _ | refine bs ?_ (by (try simp) <;> omega))))).mono ?_
  rintro e w2 ⟨rfl, g2⟩
  have S2 : Below w1.heap.size w1 w2 := bn (by repeat (first | exact br _ | assumption | refine ba ?_ | refine bd ?_ | refine below_drewN ?_ _ | refine bs ?_ (by (try simp) <;> omega))) g2
  replace HV := Lib.hid (HV.out.below S2)
  have B2 : Below w.heap.size w w2 := bn B1 S2
  clear g2 S2
  go_wp2_with fail
  refine (H0.out _ (hB.below (by repeat (first | exact br _ | assumption | refine ba ?_ | refine bd ?_ | refine below_drewN ?_ _ | refine bs ?_ (by (try simp) <;> omega))))).mono ?_
  rintro e w3 ⟨rfl, g3⟩
  have S3 : Below w2.heap.size w2 w3 := bn (by repeat (first | exact br _ | assumption | refine ba ?_ | refine bd ?_ | refine below_drewN ?_ _ | refine bs ?_ (by (try simp) <;> omega))) g3
  replace HV := Lib.hid (HV.out.below S3)
  have B3 : Below w.heap.size w w3 := bn B2 S3
  clear g3 S3
  go_wp2
  go_ret
  exact ⟨rfl, (by repeat (first | exact br _ | assumption | refine ba ?_ | refine bd ?_ | refine below_drewN ?_ _ | refine bs ?_ (by (try simp) <;> omega)))⟩

set_option maxHeartbeats 4000000 in
set_option maxRecDepth 100000 in
theorem order_out2 (A : Option Addr) (cap : Nat) (l : List TV) (kb tz : Nat) (w : World) (hB : Bw w) (hv : Ts w (.slice A 0 cap) l)
    (h20 : ∀ w, Ts w (.slice A 0 cap) l → Calls Tryz.prog 20 #[.slice A 0 cap] w fun e w' => e = .returned (.bool true) ∧ Below w.heap.size w w') :
    Calls Tryz.prog 5 #[.slice A 0 cap, .int .u8 kb, .int .u8 tz] w fun e w' => e = .returned (.bool true) ∧ Below w.heap.size w w' := by
  have HV := Lib.hid hv
  clear hv
  have H0 := Lib.hid (fun w hB => awake_walk w hB)
  have H20 := Lib.hid h20
  clear h20
  go_enter Tryz.func5, Tryz.ntmps5
  go_wp2_with fail
  refine (H0.out _ (hB.below (by repeat (first | exact br _ | assumption | refine ba ?_ | refine bd ?_ | refine below_drewN ?_ _ | refine bs ?_ (by (try simp) <;> omega))))).mono ?_
  rintro e w1 ⟨rfl, g1⟩
  have S1 : Below w.heap.size w w1 := bn (by repeat (first | exact br _ | assumption | refine ba ?_ | refine bd ?_ | refine below_drewN ?_ _ | refine bs ?_ (by (try simp) <;> omega))) g1
  replace HV := Lib.hid (HV.out.below S1)
  have B1 : Below w.heap.size w w1 := S1
  clear g1
  go_wp2_with fail
  refine (H20.out _ (HV.out.below (by repeat (first | exact br _ | assumption | refine ba ?_ | refine bd ?_ | refine below_drewN ?_ _ | refine bs ?_ (by (try simp) <;> omega))))).mono ?_
  rintro e w2 ⟨rfl, g2⟩
  have S2 : Below w1.heap.size w1 w2 := bn (by repeat (first | exact br _ | assumption | refine ba ?_ | refine bd ?_ | refine below_drewN ?_ _ | refine bs ?_ (by (try simp) <;> omega))) g2
  replace HV := Lib.hid (HV.out.below S2)
  have B2 : Below w.heap.size w w2 := bn B1 S2
  clear g2 S2
  go_wp2_with fail
  refine (H0.out _ (hB.below (by repeat (first | exact br _ | assumption | refine ba ?_ | refine bd ?_ | refine below_drewN ?_ _ | refine bs ?_ (by (try simp) <;> omega))))).mono ?_
  rintro e w3 ⟨rfl, g3⟩
  have S3 : Below w2.heap.size w2 w3 := bn (by repeat (first | exact br _ | assumption | refine ba ?_ | refine bd ?_ | refine below_drewN ?_ _ | refine bs ?_ (by (try simp) <;> omega))) g3
  replace HV := Lib.hid (HV.out.below S3)
  have B3 : Below w.heap.size w w3 := bn B2 S3
  clear g3 S3
  go_wp2
  go_ret
  exact ⟨rfl, (by repeat (first | exact br _ | assumption | refine ba ?_ | refine bd ?_ | refine below_drewN ?_ _ | refine bs ?_ (by (try simp) <;> omega)))⟩

set_option maxHeartbeats 4000000 in
set_option maxRecDepth 100000 in
theorem order_main (b off n cap k : Nat) (l : List TV) (kb tz : Nat) (w : World) (hB : Bw w) (hv : Ts w (.slice (some ⟨b, off, none⟩) n cap) l)
    (hl : l.length = n) (hn0 : 0 < n) (hn1 : n ≤ 1000000) (hnc : n ≤ cap) (hc : cap ≤ 9223372036854775807) (hk : k < n) (hkb : kb ≤ 255) (htz : tz ≤ 255) (hmod : Int.tmod (kb : Int) (n : Int) = (k : Int))
    (q : Nat → Bool) (hq : q = turnBit tz) (lo : List TV) (hlo : lo = turnedAt q 0 (l.drop k ++ l.take k)) (c : Bool) (z u : Int)
    (h20 : ∀ w, Ts w (.slice (some ⟨b, off, none⟩) n cap) l → Calls Tryz.prog 20 #[.slice (some ⟨b, off, none⟩) n cap] w fun e w' => e = .returned (.bool true) ∧ Below w.heap.size w w')
    (ho : ∀ A cap w, Ts w (.slice A (n - k) cap) (l.drop k) → Calls Tryz.prog 22 #[.slice A (n - k) cap] w (Ret fun u w' => w'.ownsRow w.heap.size 43 9 u (n - k) (tcs (l.drop k)) ∧ Below w.heap.size w w'))
    (hcl : ∀ A cap w, Ts w (.slice A n cap) l → Calls Tryz.prog 22 #[.slice A n cap] w (Ret fun r w' => (∃ A c, r = .slice A n c ∧ Ts w' (.slice A n c) l) ∧ Below w.heap.size w w'))
    (hco : ∀ A cap w, Ts w (.slice A n cap) lo → Calls Tryz.prog 22 #[.slice A n cap] w (Ret fun r w' => (∃ A c, r = .slice A n c ∧ Ts w' (.slice A n c) lo) ∧ Below w.heap.size w w'))
    (hx : ∀ A cap w, Bw w → Ts w (.slice A n cap) l → Calls Tryz.prog 30 #[.slice A n cap] w fun e w' => e = .returned (.tuple #[.bool c, .int .i64 z]) ∧ Below w.heap.size w w')
    (hxo : ∀ A cap w, Bw w → Ts w (.slice A n cap) lo → Calls Tryz.prog 30 #[.slice A n cap] w fun e w' => e = .returned (.tuple #[.bool c, .int .i64 z]) ∧ Below w.heap.size w w')
    (hs : ∀ A cap w, Bw w → Ts w (.slice A n cap) l → Calls Tryz.prog 31 #[.slice A n cap] w fun e w' => e = .returned (.tuple #[.int .i64 u, .int .i64 z]) ∧ Below w.heap.size w w')
    (hso : ∀ A cap w, Bw w → Ts w (.slice A n cap) lo → Calls Tryz.prog 31 #[.slice A n cap] w fun e w' => e = .returned (.tuple #[.int .i64 u, .int .i64 z]) ∧ Below w.heap.size w w')
    (hk1 : ∀ A cap w, Bw w → Ts w (.slice A n cap) l → Calls Tryz.prog 32 #[.slice A n cap] w fun e w' => e = .returned (.int .i64 z) ∧ Below w.heap.size w w')
    (hko : ∀ A cap w, Bw w → Ts w (.slice A n cap) lo → Calls Tryz.prog 32 #[.slice A n cap] w fun e w' => e = .returned (.int .i64 z) ∧ Below w.heap.size w w') :
    Calls Tryz.prog 5 #[.slice (some ⟨b, off, none⟩) n cap, .int .u8 kb, .int .u8 tz] w fun e w' => e = .returned (.bool true) ∧ Below w.heap.size w w' := by
  have HV := Lib.hid hv
  clear hv
  have H0 := Lib.hid (fun w hB => awake_walk w hB)
  have H20 := Lib.hid h20
  clear h20
  have HO := Lib.hid ho
  clear ho
  have HCL := Lib.hid hcl
  clear hcl
  have HCO := Lib.hid hco
  clear hco
  have HX := Lib.hid hx
  clear hx
  have HXO := Lib.hid hxo
  clear hxo
  have HS := Lib.hid hs
  clear hs
  have HSO := Lib.hid hso
  clear hso
  have HK1 := Lib.hid hk1
  clear hk1
  have HKO := Lib.hid hko
  clear hko
  have HD : Hid (∀ w, Ts w (.slice (some ⟨b, off, none⟩) n cap) l → Ts w (.slice (some ⟨b, off + k * 9, none⟩) (n - k) (cap - k)) (l.drop k)) := Lib.hid (fun w h => ts_drop h hl (by omega))
  have HT : Hid (∀ w, Ts w (.slice (some ⟨b, off, none⟩) n cap) l → Ts w (.slice (some ⟨b, off, none⟩) k cap) (l.take k)) := Lib.hid (fun w h => ts_take h hl (by omega))
  have HTL : Hid ((l.take k).length = k) := Lib.hid (by rw [List.length_take]; omega)
  have HO1 := Lib.hid (tcs_one_cell (l.take k))
  have HLO := Lib.hid hlo
  have HLL : Hid ((l.drop k ++ l.take k).length = n) := Lib.hid (by rw [List.length_append, List.length_drop, List.length_take]; omega)
  have HAP : Hid (tcs (l.drop k) ++ tcs (l.take k) = tcs (l.drop k ++ l.take k)) := Lib.hid (tcs_append _ _).symm
  clear hlo hl
  generalize l.drop k = l1 at *
  generalize l.take k = l2 at *
  have i0 : (0 : Int) < (n : Int) := by omega
  have i1 : (k : Int) < (n : Int) := by omega
  have i2 : (0 : Int) ≤ (k : Int) := by omega
  have i3 : (n : Int) ≤ (cap : Int) := by omega
  have i4 : (kb : Int) ≤ 255 := by omega
  have i5 : (tz : Int) ≤ 255 := by omega
  have i6 : ((n : Int) == 0) = false := by simp; omega
  have i7 : ¬ cap = k := by omega
  have i8 : (k : Int) ≤ (n : Int) := by omega
  have i9 : (k : Int) ≤ (cap : Int) := by omega
  have j8 : k ≤ n := by omega
  have j9 : k ≤ cap := by omega
  go_enter Tryz.func5, Tryz.ntmps5
  have HVW0 := HV
  go_wp2_with fail
  refine (H0.out _ (hB.below (by repeat (first | exact br _ | assumption | refine ba ?_ | refine bd ?_ | refine below_drewN ?_ _ | refine bs ?_ (by (try simp) <;> omega))))).mono ?_
  rintro e w1 ⟨rfl, g1⟩
  have S1 : Below w.heap.size w w1 := bn (by repeat (first | exact br _ | assumption | refine ba ?_ | refine bd ?_ | refine below_drewN ?_ _ | refine bs ?_ (by (try simp) <;> omega))) g1
  replace HV := Lib.hid (HV.out.below S1)
  have B1 : Below w.heap.size w w1 := S1
  clear g1
  go_wp2_with fail
  refine (H20.out _ (HV.out.below (by repeat (first | exact br _ | assumption | refine ba ?_ | refine bd ?_ | refine below_drewN ?_ _ | refine bs ?_ (by (try simp) <;> omega))))).mono ?_
  rintro e w2 ⟨rfl, g2⟩
  have S2 : Below w1.heap.size w1 w2 := bn (by repeat (first | exact br _ | assumption | refine ba ?_ | refine bd ?_ | refine below_drewN ?_ _ | refine bs ?_ (by (try simp) <;> omega))) g2
  replace HV := Lib.hid (HV.out.below S2)
  have B2 : Below w.heap.size w w2 := bn B1 S2
  clear g2 S2
  have Z2 := B2.size
  go_wp2_with fail
  go_region_held3 (fun w' => Below w2.heap.size w2 w')
    ((first | with_reducible assumption | (with_reducible exact bd (br _)) | (with_reducible exact br _) | (repeat (first | with_reducible assumption | (with_reducible exact br _) | (with_reducible refine bn ?_ g) | (with_reducible refine ba ?_) | (with_reducible refine bd ?_)))))
    (first
      | (go_at_call 22; refine (HO.out _ _ _ (HD.out _ (HV.out.below (by go_split_ands; assumption)))).mono ?_; rintro e wx ⟨u1, rfl, ho1, g⟩; have X1 : Below w2.heap.size w2 wx := bn (by go_split_ands; assumption) g; have HU := Lib.hid (own_base ho1 (base' := w2.heap.size) (by first | exact Nat.le_refl _ | (simp; done))); clear ho1)
      | (have HU2 := HU; refine step_append_rd (w0 := w2) w2.heap.size (by rfl) (.tmp 40) (.tmp 43) 33 43 _ 9 144 (by rfl) Tryz.underlying33 info_tri rfl (by omega) (by omega) _ (n - k) k (tcs l1) (tcs l2) (by rfl) _ _ (by rfl) (by have := HT.out _ (HV.out.below X1); unfold Ts at this; rw [HTL.out] at this; exact this) HO1.out (own_below HU.out (by repeat (first | with_reducible exact br _ | with_reducible assumption | with_reducible refine ba ?_ | with_reducible refine bd ?_ | (refine below_drewN ?_ _)))) (by repeat (first | with_reducible exact br _ | with_reducible assumption | with_reducible refine ba ?_ | with_reducible refine bd ?_ | (refine below_drewN ?_ _))) (by have := X1.size; (try simp); omega) (by omega) ?_; intro v1 w3 hown3 g3 hg3))
  have hown4 : w3.ownsRow w2.heap.size 43 9 v1 n (tcs (l1 ++ l2)) := by
    have := hown3
    rwa [show n - k + k = n by omega, HAP.out] at this
  clear hown3 hg3
  obtain ⟨g, cap1, hu, hgb, hgc⟩ := hown4.form hn0
  subst hu
  have HO2 : Hid (w3.ownsRow w2.heap.size 43 9 (.slice (some ⟨g, 0, none⟩) n cap1) n (tcs (mixT q (l1 ++ l2) 0))) := Lib.hid (by rw [mixT_zero]; exact hown4)
  have S3 : Below w2.heap.size w2 w3 := g3
  replace HV := Lib.hid (HV.out.below S3)
  have B3 : Below w.heap.size w w3 := bn B2 S3
  clear hown4 g3 S3 HO HD HT HTL HO1 HAP
  generalize l1 ++ l2 = l3 at *
  go_wp2
  go_loopw [47] (fun ii wr => ∃ i : Nat, i ≤ n ∧ ii = .int .i64 i ∧ Hid (wr.ownsRow w2.heap.size 43 9 (.slice (some ⟨g, 0, none⟩) n cap1) n (tcs (mixT q l3 i))) ∧ Below w.heap.size w wr) (fun ii _ => n - (intOf ii).toNat)
  case atStart => exact ⟨0, Nat.zero_le _, rfl, HO2, B3⟩
  case round =>
    obtain ⟨i, hi, rfl, hown, hb⟩ := hrel
    have hsz := hb.size
    by_cases hlt : i < n
    · have hi0 : (0 : Int) ≤ (i : Int) := by omega
      have hin : (i : Int) < (n : Int) := by omega
      obtain ⟨t, ht⟩ : ∃ t, l3[i]? = some t := ⟨_, List.getElem?_eq_getElem (by rw [HLL.out]; exact hlt)⟩
      obtain ⟨x0, x1, x2, x3, x4, x5, x6, x7, x8⟩ := own_nines hown.out (mixT_get ht) hlt
      have o0 := hown
      have HST : Hid (q i = true → ∀ W : World, W.ownsRow w2.heap.size 43 9 (.slice (some ⟨g, 0, none⟩) n cap1) n (tcs (mixT q l3 i)) → ((((((((((W.setCell ⟨g, i * 9, none⟩ (.string t.b.x)).setCell ⟨g, i * 9 + 1, none⟩ (.string t.b.y)).setCell ⟨g, i * 9 + 2, none⟩ (.string t.b.z)).setCell ⟨g, i * 9 + 3, none⟩ (.string t.c.x)).setCell ⟨g, i * 9 + 4, none⟩ (.string t.c.y)).setCell ⟨g, i * 9 + 5, none⟩ (.string t.c.z)).setCell ⟨g, i * 9 + 6, none⟩ (.string t.a.x)).setCell ⟨g, i * 9 + 7, none⟩ (.string t.a.y)).setCell ⟨g, i * 9 + 8, none⟩ (.string t.a.z)).ownsRow w2.heap.size 43 9 (.slice (some ⟨g, 0, none⟩) n cap1) n (tcs (mixT q l3 (i + 1))))) := Lib.hid (fun hqi W hW => by
        have h1 := own_tri (m := i) t.rot hW
        have h2 := mixT_set (q := q) ht
        rw [if_pos hqi] at h2
        rw [h2] at h1
        exact h1)
      have HB9 : Hid (∀ W : World, Below w.heap.size w W → Below w.heap.size w (((((((((W.setCell ⟨g, i * 9, none⟩ (.string t.b.x)).setCell ⟨g, i * 9 + 1, none⟩ (.string t.b.y)).setCell ⟨g, i * 9 + 2, none⟩ (.string t.b.z)).setCell ⟨g, i * 9 + 3, none⟩ (.string t.c.x)).setCell ⟨g, i * 9 + 4, none⟩ (.string t.c.y)).setCell ⟨g, i * 9 + 5, none⟩ (.string t.c.z)).setCell ⟨g, i * 9 + 6, none⟩ (.string t.a.x)).setCell ⟨g, i * 9 + 7, none⟩ (.string t.a.y)).setCell ⟨g, i * 9 + 8, none⟩ (.string t.a.z))) := Lib.hid (fun W h =>
        have hg : w.heap.size ≤ g := by omega
        (((((((((h.setCell hg _).setCell hg _).setCell hg _).setCell hg _).setCell hg _).setCell hg _).setCell hg _).setCell hg _).setCell hg _))
      have HKP : Hid (q i = false → mixT q l3 (i + 1) = mixT q l3 i) := Lib.hid (fun h => mixT_keep ht h)
      have HOW := Lib.hid o0.out
      clear hown o0 HO2 ht
      generalize t.a.x = ax at *
      generalize t.a.y = ay at *
      generalize t.a.z = az at *
      generalize t.b.x = bx at *
      generalize t.b.y = b_y at *
      generalize t.b.z = bz at *
      generalize t.c.x = cx at *
      generalize t.c.y = cy at *
      generalize t.c.z = cz at *
      have zg : g < wr.heap.size := World.block_lt_of_cell? wr _ x0
      have f0 : wr.frozen? ⟨g, i * 9, none⟩ = false := HOW.out.frozenAt _
      have f1 : wr.frozen? ⟨g, i * 9 + 1, none⟩ = false := HOW.out.frozenAt _
      have f2 : wr.frozen? ⟨g, i * 9 + 2, none⟩ = false := HOW.out.frozenAt _
      have f3 : wr.frozen? ⟨g, i * 9 + 3, none⟩ = false := HOW.out.frozenAt _
      have f4 : wr.frozen? ⟨g, i * 9 + 4, none⟩ = false := HOW.out.frozenAt _
      have f5 : wr.frozen? ⟨g, i * 9 + 5, none⟩ = false := HOW.out.frozenAt _
      have f6 : wr.frozen? ⟨g, i * 9 + 6, none⟩ = false := HOW.out.frozenAt _
      have f7 : wr.frozen? ⟨g, i * 9 + 7, none⟩ = false := HOW.out.frozenAt _
      have f8 : wr.frozen? ⟨g, i * 9 + 8, none⟩ = false := HOW.out.frozenAt _
      obtain ⟨r, hr⟩ : ∃ r, r = q i := ⟨_, rfl⟩
      have hr2 := hr
      rw [hq] at hr2
      unfold turnBit at hr2
      rw [← hr] at HST HKP
      clear hr
      cases r
      · have hr3 := hr2.symm
        have HK := Lib.hid (HKP.out rfl)
        clear HST HKP hr2
        go_wp2
        go_roundw
        case rel => exact ⟨i + 1, by omega, by go_num, Lib.hid (by rw [HK.out]; exact HOW.out.alloc _), (by repeat (first | exact br _ | assumption | refine ba ?_ | refine bd ?_ | refine below_drewN ?_ _ | refine bs ?_ (by (try simp) <;> omega)))⟩
        case measure => simp [intOf]; omega
      · have hr3 := hr2.symm
        have HS2 := Lib.hid (fun W hW => HST.out rfl W hW)
        clear HKP hr2 HST
        go_wp2
        go_roundw
        case rel => exact ⟨i + 1, by omega, by go_num, Lib.hid (World.ownsRow.alloc (HS2.out _ HOW.out) _), ba (HB9.out _ hb)⟩
        case measure => simp [intOf]; omega
    · obtain rfl : i = n := by omega
      have hlo : Hid (Ts wr (.slice (some ⟨g, 0, none⟩) i cap1) lo) := Lib.hid (by
        have h1 := hown.out
        have h2 := mixT_end q l3
        rw [HLL.out] at h2
        rw [h2, ← HLO.out] at h1
        have h3 : lo.length = i := by rw [HLO.out, turnedAt_length, HLL.out]
        refine Ts.own (base := w2.heap.size) (e := 43) ?_
        rw [h3]
        exact h1)
      clear hown HO2 HLL HLO
      replace HV := Lib.hid (HVW0.out.below hb)
      clear HVW0
      obtain ⟨w4, hWW⟩ : ∃ x, x = wr := ⟨_, rfl⟩
      subst hWW
      have HLV := hlo
      have B4 := hb
      clear hlo hsz
      go_wp2_with fail
      refine (HCL.out _ _ _ (HV.out.below (by repeat (first | exact br _ | assumption | refine ba ?_ | refine bd ?_ | refine below_drewN ?_ _ | refine bs ?_ (by (try simp) <;> omega))))).mono ?_
      rintro e w5 ⟨_, rfl, ⟨AVC, cVC, rfl, VC'⟩, g5⟩
      have S5 : Below w4.heap.size w4 w5 := bn (by repeat (first | exact br _ | assumption | refine ba ?_ | refine bd ?_ | refine below_drewN ?_ _ | refine bs ?_ (by (try simp) <;> omega))) g5
      replace HV := Lib.hid (HV.out.below S5)
      replace HLV := Lib.hid (HLV.out.below S5)
      have B5 : Below w.heap.size w w5 := bn B4 S5
      clear g5 S5
      have VC := Lib.hid VC'
      clear VC'
      go_wp2_with fail
      refine (HX.out _ _ _ (hB.below (by repeat (first | exact br _ | assumption | refine ba ?_ | refine bd ?_ | refine below_drewN ?_ _ | refine bs ?_ (by (try simp) <;> omega)))) (VC.out.below (by repeat (first | exact br _ | assumption | refine ba ?_ | refine bd ?_ | refine below_drewN ?_ _ | refine bs ?_ (by (try simp) <;> omega))))).mono ?_
      rintro e w6 ⟨rfl, g6⟩
      have S6 : Below w5.heap.size w5 w6 := bn (by repeat (first | exact br _ | assumption | refine ba ?_ | refine bd ?_ | refine below_drewN ?_ _ | refine bs ?_ (by (try simp) <;> omega))) g6
      replace HV := Lib.hid (HV.out.below S6)
      replace HLV := Lib.hid (HLV.out.below S6)
      replace VC := Lib.hid (VC.out.below S6)
      have B6 : Below w.heap.size w w6 := bn B5 S6
      clear g6 S6
      clear VC
      go_wp2_with fail
      refine (HCO.out _ _ _ (HLV.out.below (by repeat (first | exact br _ | assumption | refine ba ?_ | refine bd ?_ | refine below_drewN ?_ _ | refine bs ?_ (by (try simp) <;> omega))))).mono ?_
      rintro e w7 ⟨_, rfl, ⟨AVC, cVC, rfl, VC'⟩, g7⟩
      have S7 : Below w6.heap.size w6 w7 := bn (by repeat (first | exact br _ | assumption | refine ba ?_ | refine bd ?_ | refine below_drewN ?_ _ | refine bs ?_ (by (try simp) <;> omega))) g7
      replace HV := Lib.hid (HV.out.below S7)
      replace HLV := Lib.hid (HLV.out.below S7)
      have B7 : Below w.heap.size w w7 := bn B6 S7
      clear g7 S7
      have VC := Lib.hid VC'
      clear VC'
      go_wp2_with fail
      refine (HXO.out _ _ _ (hB.below (by repeat (first | exact br _ | assumption | refine ba ?_ | refine bd ?_ | refine below_drewN ?_ _ | refine bs ?_ (by (try simp) <;> omega)))) (VC.out.below (by repeat (first | exact br _ | assumption | refine ba ?_ | refine bd ?_ | refine below_drewN ?_ _ | refine bs ?_ (by (try simp) <;> omega))))).mono ?_
      rintro e w8 ⟨rfl, g8⟩
      have S8 : Below w7.heap.size w7 w8 := bn (by repeat (first | exact br _ | assumption | refine ba ?_ | refine bd ?_ | refine below_drewN ?_ _ | refine bs ?_ (by (try simp) <;> omega))) g8
      replace HV := Lib.hid (HV.out.below S8)
      replace HLV := Lib.hid (HLV.out.below S8)
      replace VC := Lib.hid (VC.out.below S8)
      have B8 : Below w.heap.size w w8 := bn B7 S8
      clear g8 S8
      clear VC
      go_wp2_with fail
      refine (HCL.out _ _ _ (HV.out.below (by repeat (first | exact br _ | assumption | refine ba ?_ | refine bd ?_ | refine below_drewN ?_ _ | refine bs ?_ (by (try simp) <;> omega))))).mono ?_
      rintro e w9 ⟨_, rfl, ⟨AVC, cVC, rfl, VC'⟩, g9⟩
      have S9 : Below w8.heap.size w8 w9 := bn (by repeat (first | exact br _ | assumption | refine ba ?_ | refine bd ?_ | refine below_drewN ?_ _ | refine bs ?_ (by (try simp) <;> omega))) g9
      replace HV := Lib.hid (HV.out.below S9)
      replace HLV := Lib.hid (HLV.out.below S9)
      have B9 : Below w.heap.size w w9 := bn B8 S9
      clear g9 S9
      have VC := Lib.hid VC'
      clear VC'
      go_wp2_with fail
      refine (HS.out _ _ _ (hB.below (by repeat (first | exact br _ | assumption | refine ba ?_ | refine bd ?_ | refine below_drewN ?_ _ | refine bs ?_ (by (try simp) <;> omega)))) (VC.out.below (by repeat (first | exact br _ | assumption | refine ba ?_ | refine bd ?_ | refine below_drewN ?_ _ | refine bs ?_ (by (try simp) <;> omega))))).mono ?_
      rintro e w10 ⟨rfl, g10⟩
      have S10 : Below w9.heap.size w9 w10 := bn (by repeat (first | exact br _ | assumption | refine ba ?_ | refine bd ?_ | refine below_drewN ?_ _ | refine bs ?_ (by (try simp) <;> omega))) g10
      replace HV := Lib.hid (HV.out.below S10)
      replace HLV := Lib.hid (HLV.out.below S10)
      replace VC := Lib.hid (VC.out.below S10)
      have B10 : Below w.heap.size w w10 := bn B9 S10
      clear g10 S10
      clear VC
      go_wp2_with fail
      refine (HCO.out _ _ _ (HLV.out.below (by repeat (first | exact br _ | assumption | refine ba ?_ | refine bd ?_ | refine below_drewN ?_ _ | refine bs ?_ (by (try simp) <;> omega))))).mono ?_
      rintro e w11 ⟨_, rfl, ⟨AVC, cVC, rfl, VC'⟩, g11⟩
      have S11 : Below w10.heap.size w10 w11 := bn (by repeat (first | exact br _ | assumption | refine ba ?_ | refine bd ?_ | refine below_drewN ?_ _ | refine bs ?_ (by (try simp) <;> omega))) g11
      replace HV := Lib.hid (HV.out.below S11)
      replace HLV := Lib.hid (HLV.out.below S11)
      have B11 : Below w.heap.size w w11 := bn B10 S11
      clear g11 S11
      have VC := Lib.hid VC'
      clear VC'
      go_wp2_with fail
      refine (HSO.out _ _ _ (hB.below (by repeat (first | exact br _ | assumption | refine ba ?_ | refine bd ?_ | refine below_drewN ?_ _ | refine bs ?_ (by (try simp) <;> omega)))) (VC.out.below (by repeat (first | exact br _ | assumption | refine ba ?_ | refine bd ?_ | refine below_drewN ?_ _ | refine bs ?_ (by (try simp) <;> omega))))).mono ?_
      rintro e w12 ⟨rfl, g12⟩
      have S12 : Below w11.heap.size w11 w12 := bn (by repeat (first | exact br _ | assumption | refine ba ?_ | refine bd ?_ | refine below_drewN ?_ _ | refine bs ?_ (by (try simp) <;> omega))) g12
      replace HV := Lib.hid (HV.out.below S12)
      replace HLV := Lib.hid (HLV.out.below S12)
      replace VC := Lib.hid (VC.out.below S12)
      have B12 : Below w.heap.size w w12 := bn B11 S12
      clear g12 S12
      clear VC
      go_wp2_with fail
      refine (HCL.out _ _ _ (HV.out.below (by repeat (first | exact br _ | assumption | refine ba ?_ | refine bd ?_ | refine below_drewN ?_ _ | refine bs ?_ (by (try simp) <;> omega))))).mono ?_
      rintro e w13 ⟨_, rfl, ⟨AVC, cVC, rfl, VC'⟩, g13⟩
      have S13 : Below w12.heap.size w12 w13 := bn (by repeat (first | exact br _ | assumption | refine ba ?_ | refine bd ?_ | refine below_drewN ?_ _ | refine bs ?_ (by (try simp) <;> omega))) g13
      replace HV := Lib.hid (HV.out.below S13)
      replace HLV := Lib.hid (HLV.out.below S13)
      have B13 : Below w.heap.size w w13 := bn B12 S13
      clear g13 S13
      have VC := Lib.hid VC'
      clear VC'
      go_wp2_with fail
      refine (HK1.out _ _ _ (hB.below (by repeat (first | exact br _ | assumption | refine ba ?_ | refine bd ?_ | refine below_drewN ?_ _ | refine bs ?_ (by (try simp) <;> omega)))) (VC.out.below (by repeat (first | exact br _ | assumption | refine ba ?_ | refine bd ?_ | refine below_drewN ?_ _ | refine bs ?_ (by (try simp) <;> omega))))).mono ?_
      rintro e w14 ⟨rfl, g14⟩
      have S14 : Below w13.heap.size w13 w14 := bn (by repeat (first | exact br _ | assumption | refine ba ?_ | refine bd ?_ | refine below_drewN ?_ _ | refine bs ?_ (by (try simp) <;> omega))) g14
      replace HV := Lib.hid (HV.out.below S14)
      replace HLV := Lib.hid (HLV.out.below S14)
      replace VC := Lib.hid (VC.out.below S14)
      have B14 : Below w.heap.size w w14 := bn B13 S14
      clear g14 S14
      clear VC
      go_wp2_with fail
      refine (HCO.out _ _ _ (HLV.out.below (by repeat (first | exact br _ | assumption | refine ba ?_ | refine bd ?_ | refine below_drewN ?_ _ | refine bs ?_ (by (try simp) <;> omega))))).mono ?_
      rintro e w15 ⟨_, rfl, ⟨AVC, cVC, rfl, VC'⟩, g15⟩
      have S15 : Below w14.heap.size w14 w15 := bn (by repeat (first | exact br _ | assumption | refine ba ?_ | refine bd ?_ | refine below_drewN ?_ _ | refine bs ?_ (by (try simp) <;> omega))) g15
      replace HV := Lib.hid (HV.out.below S15)
      replace HLV := Lib.hid (HLV.out.below S15)
      have B15 : Below w.heap.size w w15 := bn B14 S15
      clear g15 S15
      have VC := Lib.hid VC'
      clear VC'
      go_wp2_with fail
      refine (HKO.out _ _ _ (hB.below (by repeat (first | exact br _ | assumption | refine ba ?_ | refine bd ?_ | refine below_drewN ?_ _ | refine bs ?_ (by (try simp) <;> omega)))) (VC.out.below (by repeat (first | exact br _ | assumption | refine ba ?_ | refine bd ?_ | refine below_drewN ?_ _ | refine bs ?_ (by (try simp) <;> omega))))).mono ?_
      rintro e w16 ⟨rfl, g16⟩
      have S16 : Below w15.heap.size w15 w16 := bn (by repeat (first | exact br _ | assumption | refine ba ?_ | refine bd ?_ | refine below_drewN ?_ _ | refine bs ?_ (by (try simp) <;> omega))) g16
      replace HV := Lib.hid (HV.out.below S16)
      replace HLV := Lib.hid (HLV.out.below S16)
      replace VC := Lib.hid (VC.out.below S16)
      have B16 : Below w.heap.size w w16 := bn B15 S16
      clear g16 S16
      clear VC
      go_wp2
      go_ret
      exact ⟨rfl, (by repeat (first | exact br _ | assumption | refine ba ?_ | refine bd ?_ | refine below_drewN ?_ _ | refine bs ?_ (by (try simp) <;> omega)))⟩
end Go.Proofs.YtbnbaokamccmjaaGreatDoor

/- law of chapter 12: MeshOrder: whatever the input is, it returns true; the row and the card. -/
set_option linter.unusedVariables false
set_option linter.unusedSimpArgs false
namespace Go.Proofs.YtbnbaokamccmjaaGreatDoor
open Go Go.ChangeShapes Go.WideShapes Go.ChangeAt Go.RowKit Go.Joins
open Go.ChangeMaps (open_string shut_string)

theorem turned_txt (q : Nat → Bool) : ∀ (L : List (Tr V3)) (i : Nat), turnedAt q i (L.map txt) = (turnedAt q i L).map txt
  | [], _ => rfl
  | t :: L, i => by
    rw [List.map_cons, turnedAt, turnedAt, List.map_cons, turned_txt q L (i + 1)]
    cases q i <;> rfl
theorem tvalid_rot (t : TV) : tvalid t.rot = tvalid t := by
  unfold tvalid Tr.rot
  cases isVec t.a <;> cases isVec t.b <;> cases isVec t.c <;> rfl
theorem alike_valid {l m : List TV} (h : Alike l m) : l.all tvalid = m.all tvalid := by
  rw [Bool.eq_iff_iff, List.all_eq_true, List.all_eq_true]
  constructor
  · intro hl t ht
    rcases h.back t ht with h1 | h1
    · exact hl t h1
    · have := hl _ h1
      rwa [tvalid_rot, tvalid_rot] at this
  · intro hm t ht
    rcases h.fwd t ht with h1 | h1
    · exact hm t h1
    · have := hm _ h1
      rwa [tvalid_rot] at this
theorem alike_chk {l m : List TV} (h : Alike l m) : chkC m = chkC l := by
  unfold chkC
  rw [← h.len, ← alike_valid h, ← h.open]
theorem alike_tle {l m : List TV} {k : Nat} (h : Alike l m) (hl : tle l k) : tle m k := by
  intro t ht
  rcases h.back t ht with h1 | h1
  · exact hl t h1
  · obtain ⟨a, b, c⟩ := hl _ h1
    exact ⟨b, c, a⟩
theorem alike_leT {l m : List (Tr V3)} {k : Nat} (h : Alike l m) (hl : leT l k) : leT m k := by
  intro t ht
  rcases h.back t ht with h1 | h1
  · exact hl t h1
  · obtain ⟨a, b, c⟩ := hl _ h1
    exact ⟨b, c, a⟩
/-- The clone of a part, as an own row. -/
theorem clone_own (v : Value) (l : List TV) (n : Nat) (hn : l.length = n) (hm : n ≤ 1000000) (w : World) (hv : Ts w v l) :
    Calls Tryz.prog 22 #[v] w (Ret fun u w' => w'.ownsRow w.heap.size 43 9 u n (tcs l) ∧ Below w.heap.size w w') := by
  have := cloneS_walk v l w hv (by omega)
  rwa [hn] at this
/-- THE LAW's WALK, WHATEVER THE INPUT IS. -/
theorem meshOrder_walk (v : Value) (l : List TV) (kb tz : Nat) (hkb : kb ≤ 255) (htz : tz ≤ 255) (w : World) (hB : Bw w) (hv : Ts w v l) :
    Calls Tryz.prog 5 #[v, .int .u8 kb, .int .u8 tz] w fun e w' => e = .returned (.bool true) ∧ Below w.heap.size w w' := by
  obtain ⟨A, cap, rfl, hn, hc, hcell⟩ := hv.open
  have h20 := fun w (h : Ts w (.slice A l.length cap) l) => refFew_walk _ l w h
  cases r1 : fewT l with
  | false =>
    rw [r1] at h20
    exact order_out1 A _ cap l kb tz w hB hv h20
  | true =>
  rw [r1] at h20
  rcases Nat.eq_zero_or_pos l.length with h0 | h0
  · rw [h0] at hv h20 ⊢
    exact order_out2 A cap l kb tz w hB hv h20
  obtain ⟨b, off, rfl, -⟩ := hcell h0
  have hlen := few_len r1
  obtain ⟨n, hnn⟩ : ∃ n, n = l.length := ⟨_, rfl⟩
  rw [← hnn] at hn h20 h0 hlen hv ⊢
  have hk : kb % n < n := Nat.mod_lt _ h0
  obtain ⟨q, hq⟩ : ∃ q : Nat → Bool, q = turnBit tz := ⟨_, rfl⟩
  have hal := alike_order q (kb % n) l
  have hnl : (turnedAt q 0 (l.drop (kb % n) ++ l.take (kb % n))).length = n := by rw [← hal.len, hnn]
  have hch := alike_chk hal
  have htl := alike_tle hal (few_tle r1)
  have hdl : (l.drop (kb % n)).length = n - kb % n := by rw [List.length_drop, hnn]
  by_cases hz : chkC l = 0
  · obtain ⟨_, hval, hop⟩ := chkC_zero hz
    obtain ⟨L, rfl⟩ := solid_of hval
    have l20 := few_leT r1
    have aL := alike_order q (kb % n) L
    have lo20 := alike_leT aL l20
    have et : turnedAt q 0 ((L.map txt).drop (kb % n) ++ (L.map txt).take (kb % n)) = (turnedAt q 0 (L.drop (kb % n) ++ L.take (kb % n))).map txt := by
      rw [← turned_txt, List.map_append, List.map_drop, List.map_take]
    rw [hz] at hch
    refine order_main b off n cap (kb % n) (L.map txt) kb tz w hB hv hnn.symm h0 (by omega) hn hc hk hkb htz rfl q hq _ rfl (convexL L) 0 (shellsL L : Nat) h20 ?_ ?_ ?_ ?_ ?_ ?_ ?_ ?_ ?_
    · exact fun A cap w h => clone_own _ _ _ hdl (by omega) w h
    · exact fun A cap w h => clone_sl _ _ _ hnn.symm (by omega) w h
    · exact fun A cap w h => clone_sl _ _ _ hnl (by omega) w h
    · exact fun A cap w hB h => convex_walk _ L w hB h (le_up l20 (by omega)) hz
    · intro A cap w hB h
      rw [et] at h hch
      have := convex_walk _ _ w hB h (le_up lo20 (by omega)) hch
      rwa [← aL.convex] at this
    · intro A cap w hB h
      have := mShells_ok _ _ w hB h (few_tle r1) hz
      rwa [shells_txt] at this
    · intro A cap w hB h
      have := mShells_ok _ _ w hB h htl hch
      rwa [← hal.shells, shells_txt] at this
    · intro A cap w hB h
      have := check_walk _ _ w hB h (few_tle r1)
      rwa [hz] at this
    · intro A cap w hB h
      have := check_walk _ _ w hB h htl
      rwa [hch] at this
  · refine order_main b off n cap (kb % n) l kb tz w hB hv hnn.symm h0 (by omega) hn hc hk hkb htz rfl q hq _ rfl false (chkC l) 0 h20 ?_ ?_ ?_ ?_ ?_ ?_ ?_ ?_ ?_
    · exact fun A cap w h => clone_own _ _ _ hdl (by omega) w h
    · exact fun A cap w h => clone_sl _ _ _ hnn.symm (by omega) w h
    · exact fun A cap w h => clone_sl _ _ _ hnl (by omega) w h
    · exact fun A cap w hB h => mConvex_bad _ _ _ w hB h (few_tle r1) rfl hz
    · exact fun A cap w hB h => mConvex_bad _ _ _ w hB h htl hch hz
    · exact fun A cap w hB h => mShells_bad _ _ _ w hB h (few_tle r1) rfl hz
    · exact fun A cap w hB h => mShells_bad _ _ _ w hB h htl hch hz
    · exact fun A cap w hB h => check_walk _ _ w hB h (few_tle r1)
    · intro A cap w hB h
      have := check_walk _ _ w hB h htl
      rwa [hch] at this

/-! ### The row -/
theorem wf_u8 {z : Int} (h : (Lit.int .u8 z).wf = true) : ∃ k : Nat, z = k ∧ k ≤ 255 := by
  simp only [Lit.wf, Bool.and_eq_true, decide_eq_true_eq] at h
  have h1 : (0 : Int) ≤ z := h.1
  have h2 : z ≤ 255 := h.2
  exact ⟨z.toNat, by omega, by omega⟩
set_option maxRecDepth 100000 in
theorem order_contract (H : Type) (enc : TypeId × Value → H) (W : World) (base : Nat) (args : Array Value) (ds gs : List (DataW H)) (before : List MemPlace)
    (hval : ∀ (j : Nat) t v, Tryz.f5.params[j]? = some t → args[j]? = some v → Value.okWide Tryz.prog W .any base t v)
    (hW : DataW.Whole enc Tryz.prog Tryz.f5.params.toList Rows.meshOrderSpec.vars false W args.toList ds gs before) (hL : laidMetH Tryz.prog Rows.meshOrderRow.laid W) (hS : W.ShapedOpen Tryz.prog) :
    Calls Tryz.prog 5 args W fun e W' => ∃ v, e = .returned v ∧ Rows.meshOrderSpec.post enc Tryz.prog Tryz.f5 false true false false W args v W' := by
  have hW' := hW
  obtain ⟨p, q, hA0, hV, rfl, hfz, hnd⟩ := hW
  have hA : DataW.TrodAll enc Tryz.prog W 0 (fun _ => true) true Tryz.f5.params.toList args.toList ds p := hA0
  rw [Tryz.params5] at hA hval
  obtain ⟨v0, v1, v2, d0, d1, d2, p0, p1, p2, rfl, rfl, rfl, h0, h1, h2⟩ := trodAll_three hA
  obtain ⟨rfl, rfl⟩ := trodVars_none hV
  obtain ⟨l, hl⟩ := open_solid (hval 0 33 v0 rfl rfl) h0
  obtain ⟨z1, rfl, rfl, rfl, hw1⟩ := open_int Tryz.underlying5 (hval 1 5 v1 rfl rfl) h1
  obtain ⟨z2, rfl, rfl, rfl, hw2⟩ := open_int Tryz.underlying5 (hval 2 5 v2 rfl rfl) h2
  obtain ⟨k1, rfl, hk1⟩ := wf_u8 hw1
  obtain ⟨k2, rfl, hk2⟩ := wf_u8 hw2
  clear hA0
  have hlt : ∀ x ∈ p0, x.block < W.heap.size := fun x hx => hW'.lt x (by simp [hx])
  refine (meshOrder_walk v0 l k1 k2 hk1 hk2 W (bw_of hL hS) hl).mono fun e W' ⟨he, hg⟩ => ?_
  subst he
  refine ⟨_, rfl, _, _, _, [], p0 ++ ([] ++ []), [], hW', ?_, ?_, rfl, hg.frame _, fun h => by cases h⟩
  · exact trodAll_cons_mk (shut_bool Tryz.underlying4 _) trodAll_mk0
  · exact trodAll_mk3 (Below.trod laidOut (by kernel_rfl) (of_decide_eq_true (by kernel_rfl)) h0 hg hlt) (shut_int Tryz.underlying5 hw1) (shut_int Tryz.underlying5 hw2)

theorem order_laid (os : Os) : laidMet Tryz.prog Rows.meshOrderRow.laid ((laidWorld os).forCall (fun _ _ => 0) ⟨#[], #[noSol, .int .u8 0, .int .u8 0], []⟩).memory :=
  laidMet_of_run' 8 (by kernel_rfl) (by kernel_rfl)
theorem order_reads0 (os : Os) {H : Type} (enc : TypeId × Value → H) : ∃ places, DataW.whole enc Tryz.prog ((laidWorld os).forCall (fun _ _ => 0) ⟨#[], #[noSol, .int .u8 0, .int .u8 0], []⟩).memory Tryz.f5.params.toList Rows.meshOrderSpec.vars false #[noSol, .int .u8 0, .int .u8 0].toList 8 = some ([.nil, .lit (.int .u8 0), .lit (.int .u8 0)], [], places) :=
  ⟨[], by kernel_rfl⟩

set_option maxRecDepth 100000 in
theorem order_lifted (os : Os) (started : os.Started) (H : Type) (enc : TypeId × Value → H) (F : Stop.Interp) :
    ReturnsInHanded {} Tryz.checked os 5 .any ((OpenSpec.ofChange Rows.meshOrderSpec).preRow enc Tryz.prog Tryz.f5 Rows.meshOrderRow.domain false Rows.meshOrderRow.laid) (((OpenSpec.ofChange Rows.meshOrderSpec).at F).post enc Tryz.prog Tryz.f5 false true false false) := by
  obtain ⟨places, hx⟩ := order_reads0 os enc
  refine returnsInHanded_of_row (C := Tryz.checked) (s := OpenSpec.ofChange Rows.meshOrderSpec) own started (by kernel_rfl) Tryz.func5
    (witness_row_at (enc := enc) (C := Tryz.checked) false (laidWorld os) #[noSol, .int .u8 0, .int .u8 0] rfl (by kernel_rfl) (by kernel_rfl) (by kernel_rfl)
      (OpenSpec.preRow_of_cond 8 hx (by kernel_rfl) (fun k hk => by cases hk) (by kernel_rfl) (order_laid os))) ?_
  intro W base args ds gs before hval hW _ _ _ hL hS _
  exact order_contract H enc W base args ds gs before hval hW hL hS

theorem order_said : Rows.MeshOrderSaid :=
  OpenClaim.holds_of_cond 5 Tryz.f5 rfl rfl rfl rfl rfl rfl rfl ⟨rfl, rfl, rfl, rfl, rfl⟩ rfl rfl rfl rfl rfl (by kernel_rfl) Tryz.func5 (by kernel_rfl)
    (of_decide_eq_true (by kernel_rfl)) (by unfold Func.isWrapper; first | (rw [if_pos (by decide +kernel)]; kernel_rfl) | (rw [if_neg (by decide +kernel)]; exact ⟨rfl, rfl⟩))
    (fun os started H enc _ F => by rw [OpenClaim.pre_eq_preRow]; exact order_lifted os started H enc F)

theorem order_plain (f : FuncId) (fn : Func) (hf : Tryz.pinned.checked.prog.funcNamed "garboard/garboardlaw12.MeshOrder" = some f) (hfn : Tryz.pinned.checked.prog.funcs[f]? = some fn) :
    true = Tryz.pinned.checked.prog.looks [] ∧ ∀ (j : Nat) t, fn.params[j]? = some t → Tryz.pinned.checked.prog.wantsStandIn t = false := by
  obtain rfl : f = 5 := Option.some.inj ((show Tryz.prog.funcNamed "garboard/garboardlaw12.MeshOrder" = some 5 by kernel_rfl).symm.trans hf) |>.symm
  obtain rfl : fn = Tryz.f5 := (Option.some.inj (Tryz.func5.symm.trans hfn)).symm
  refine ⟨by kernel_rfl, fun j t ht => ?_⟩
  rw [Tryz.params5] at ht
  have : t = 33 ∨ t = 5 := by simpa using Array.mem_of_getElem? ht
  rcases this with rfl | rfl
  · exact (show Tryz.prog.wantsStandIn 33 = false by kernel_rfl)
  · exact (show Tryz.prog.wantsStandIn 5 = false by kernel_rfl)

/-- THE CARD. -/
theorem meshOrder_holds : Rows.MeshOrderCardSaid :=
  Claim7.holds_tied_plain_at .later [] _ _ _ _ order_said (fun _ h => by cases h) (by kernel_rfl) (fun _ h => by cases h) meshOrder_row_tie rfl ⟨rfl, rfl⟩ (by kernel_rfl) rfl order_plain (by kernel_rfl)
#print axioms meshOrder_holds
end Go.Proofs.YtbnbaokamccmjaaGreatDoor
