/- garboardref12: vectors, fan, Fan, turned. -/
import Derived.Test.YtbnbaokamccmjaaGreatDoorDG
import Derived.Test.YtbnbaokamccmjaaGreatDoorDD
set_option linter.unusedVariables false
set_option linter.unusedSimpArgs false
namespace Go.Proofs.YtbnbaokamccmjaaGreatDoor
open Go Go.RowKit
set_option maxHeartbeats 1000000 in
theorem rvectors_walk (v : Value) (l : List SV) (w : World) (hv : Vs w v l) (hs : ∀ s ∈ l, s.le 10000000) :
   Calls Tryz.prog 50 #[v] w fun e w' => e = .returned (.bool (l.all isVec)) ∧ Below w.heap.size w w' := by
 obtain ⟨A, cap, rfl, hn, hc, hcell⟩ := hv.open
 have HCL := Lib.hid hcell
 have HTE := Lib.hid (show l.take l.length = l from List.take_length)
 have HS := Lib.hid hs
 obtain ⟨n, hn0⟩ : ∃ n, n = l.length := ⟨_, rfl⟩
 have HG := Lib.hid (fun k (hk : k < n) => (show ∃ s, l[k]? = some s from ⟨_, List.getElem?_eq_getElem (by rw [← hn0]; exact hk)⟩))
 rw [← hn0] at hn HCL HTE ⊢
 clear hn0 hv hcell hs
 go_enter Tryz.func50, Tryz.ntmps50
 go_wp2
 go_loopw [3] (fun ii wr => ∃ k : Nat, k ≤ n ∧ ii = .int .i64 k ∧ Hid ((l.take k).all isVec = true) ∧ Below w.heap.size w wr) (fun ii _ => n - (intOf ii).toNat)
 case atStart => exact ⟨0, Nat.zero_le _, rfl, Lib.hid rfl, Below.refl _ _⟩
 case round =>
   obtain ⟨k, hk, rfl, hd, hb⟩ := hrel
   by_cases hlt : k < n
   · obtain ⟨s, hg⟩ := HG.out k hlt
     obtain ⟨b, off, rfl, hcl⟩ := HCL.out (by omega)
     obtain ⟨c0, c1, c2⟩ := hcl k _ hg
     have d0 := cell_below hb c0
     have d1 := cell_below hb c1
     have d2 := cell_below hb c2
     have HV := Lib.hid (fun w => wValid_walk s (HS.out s (List.mem_of_getElem? hg)) w)
     have HT := Lib.hid (fun (h : isVec s = true) => take_all hg hd.out h)
     have HF : Hid (isVec s = false → l.all isVec = false) := Lib.hid (fun h => List.all_eq_false.2 ⟨s, List.mem_of_getElem? hg, by rw [h]; decide⟩)
     have hk0 : (0 : Int) ≤ (k : Int) := by omega
     have hkn : (k : Int) < (n : Int) := by omega
     clear hg hcl hd c0 c1 c2
     unfold SV.val at HV
     generalize s.x = x1 at *
     generalize s.y = x2 at *
     generalize s.z = x3 at *
     generalize isVec s = r at *
     go_wp2_with fail
     refine (HV.out _).mono ?_
     rintro e w1 ⟨rfl, g1⟩
     have b1 : Below w.heap.size w w1 := bn hb g1
     clear g1
     cases r
     · have E := Lib.hid (HF.out rfl)
       clear HT HF
       go_wp2
       go_ret
       exact ⟨by rw [E.out]; rfl, b1⟩
     · have E := Lib.hid (HT.out rfl)
       clear HT HF
       go_wp2
       go_roundw
       case rel => exact ⟨k + 1, by omega, by go_num, E, b1⟩
       case measure => simp [intOf]; omega
   · obtain rfl : k = n := by omega
     rw [HTE.out] at hd
     have E := Lib.hid hd.out
     clear hd
     go_wp2
     go_ret
     exact ⟨by rw [E.out]; rfl, hb⟩
set_option maxHeartbeats 2000000 in
theorem rfan_walk (v : Value) (l : List SV) (w : World) (hv : Vs w v l) (hl : 2 ≤ l.length) (hm : l.length ≤ 1000000) :
   Calls Tryz.prog 51 #[v] w (Ret fun u w' => Ts w' u (fanL l) ∧ Below w.heap.size w w') := by
 obtain ⟨A, cap, rfl, hn, hc, hcell⟩ := hv.open
 obtain ⟨b, off, rfl, hcl⟩ := hcell (by omega)
 clear hcell
 obtain ⟨s0, h00⟩ : ∃ s, l[0]? = some s := ⟨_, List.getElem?_eq_getElem (by omega)⟩
 obtain ⟨a0, a1, a2⟩ := hcl 0 _ h00
 rw [Nat.zero_mul, Nat.add_zero] at a0 a1 a2
 have HCL := Lib.hid hcl
 obtain ⟨n, hlen⟩ : ∃ n, n = l.length := ⟨_, rfl⟩
 have HL := Lib.hid hlen
 have HST0 := Lib.hid (fun (k : Nat) (h2 : 2 ≤ k) (hk : k < n) => fanL_step h00 h2 (show k < l.length by rw [← HL.out]; exact hk))
 rw [← hlen] at hn hl hm ⊢
 have A0 := Lib.hid a0
 have A1 := Lib.hid a1
 have A2 := Lib.hid a2
 clear a0 a1 a2 hcl h00 hv hlen
 go_enter Tryz.func51, Tryz.ntmps51
 go_wp2
 go_loopw [3, 4] (fun ov ii wr => ∃ k : Nat, 2 ≤ k ∧ k ≤ n ∧ ii = .int .i64 k ∧ wr.ownsRow w.heap.size 43 9 ov (k - 2) (tcs (fanL (l.take k))) ∧ Below w.heap.size w wr) (fun _ ii _ => n - (intOf ii).toNat)
 case atStart => exact ⟨2, by omega, by omega, rfl, by rw [fanL_two _ (by rw [List.length_take]; omega)]; exact World.ownsRow_nil _ _ _ _, Below.refl _ _⟩
 case round =>
   obtain ⟨k, hk2, hk, rfl, hown, hb⟩ := hrel
   by_cases hlt : k < n
   · obtain ⟨s1, s2, hg1, hg2, hst⟩ := HST0.out k hk2 hlt
     obtain ⟨b0, b1, b2⟩ := HCL.out _ _ hg1
     obtain ⟨c0, c1, c2⟩ := HCL.out _ _ hg2
     have HST := Lib.hid hst
     clear hst hg1 hg2
     obtain ⟨j, hj⟩ : ∃ j, j = k - 1 := ⟨_, rfl⟩
     rw [← hj] at b0 b1 b2
     have hj1 : (k : Int) - 1 = (j : Int) := by omega
     have hjw : IntKind.i64.wrap ((k : Int) - 1) = (j : Int) := by rw [hj1]; exact wrap_nat j (by omega)
     have hjv : IntKind.i64.wrap (j : Int) = (j : Int) := wrap_nat j (by omega)
     have hn1 : 0 < n := by omega
     have hj0 : (0 : Int) ≤ (j : Int) := by omega
     have hj2 : (j : Int) < (n : Int) := by omega
     have hk0 : (0 : Int) ≤ (k : Int) := by omega
     have hkn : (k : Int) < (n : Int) := by omega
     have hn0 : (0 : Int) < (n : Int) := by omega
     have a0 := A0.out
     have a1 := A1.out
     have a2 := A2.out
     have HC := Lib.hid (And.intro (And.intro a0 (And.intro a1 a2)) (And.intro (And.intro b0 (And.intro b1 b2)) (And.intro c0 (And.intro c1 c2))))
     have d0 := cell_below hb a0
     have d1 := cell_below hb a1
     have d2 := cell_below hb a2
     have d3 := cell_below hb b0
     have d4 := cell_below hb b1
     have d5 := cell_below hb b2
     have d6 := cell_below hb c0
     have d7 := cell_below hb c1
     have d8 := cell_below hb c2
     clear a0 a1 a2 b0 b1 b2 c0 c1 c2 hj
     have HTS : Hid (TV.cells ⟨s0, s1, s2⟩ = [.string s0.x, .string s0.y, .string s0.z, .string s1.x, .string s1.y, .string s1.z, .string s2.x, .string s2.y, .string s2.z]) := Lib.hid rfl
     generalize s0.x = x0 at *
     generalize s0.y = y0 at *
     generalize s0.z = z0 at *
     generalize s1.x = x1 at *
     generalize s1.y = y1 at *
     generalize s1.z = z1 at *
     generalize s2.x = x2 at *
     generalize s2.y = y2 at *
     generalize s2.z = z2 at *
     have hsz := hb.size
     go_wp2_with fail
     go_region_held3 (fun w' => w'.cell? ⟨b, off, none⟩ = some (.string x0) ∧ w'.cell? ⟨b, off + 1, none⟩ = some (.string y0) ∧ w'.cell? ⟨b, off + 2, none⟩ = some (.string z0) ∧
         w'.cell? ⟨b, off + j * 3, none⟩ = some (.string x1) ∧ w'.cell? ⟨b, off + j * 3 + 1, none⟩ = some (.string y1) ∧ w'.cell? ⟨b, off + j * 3 + 2, none⟩ = some (.string z1) ∧
         w'.cell? ⟨b, off + k * 3, none⟩ = some (.string x2) ∧ w'.cell? ⟨b, off + k * 3 + 1, none⟩ = some (.string y2) ∧ w'.cell? ⟨b, off + k * 3 + 2, none⟩ = some (.string z2) ∧ Below w.heap.size w w')
       ((go_split_ands; exact ⟨cell_below bel HC.out.1.1, cell_below bel HC.out.1.2.1, cell_below bel HC.out.1.2.2, cell_below bel HC.out.2.1.1, cell_below bel HC.out.2.1.2.1, cell_below bel HC.out.2.1.2.2, cell_below bel HC.out.2.2.1, cell_below bel HC.out.2.2.2.1, cell_below bel HC.out.2.2.2.2, bel⟩))
       ((refine step_append_box (w0 := w) w.heap.size (by rfl) _ _ 28 43 _ 9 144 (by rfl) Tryz.underlying28 info_tri rfl (by omega) (by omega) _ (k - 2) 1 (tcs (fanL (l.take k))) [.string x0, .string y0, .string z0, .string x1, .string y1, .string z1, .string x2, .string y2, .string z2] (by rfl) wr.heap.size (by rfl) (by omega) (by rfl) (by simp [Value.oneCell']) (by first | exact (hown.alloc _).drew | exact hown.drew.alloc _) (by first | exact box_drew (box_at _ _ rfl) | exact box_at _ _ rfl) bel (by (try simp) <;> omega) (by omega) ?_; intro v1 w1 hown1 hb1 hg1))
     have hown2 : w1.ownsRow w.heap.size 43 9 v1 (k + 1 - 2) (tcs (fanL (l.take (k + 1)))) := by
       rw [HST.out, tcs_append, tcs_one, HTS.out, show k + 1 - 2 = k - 2 + 1 by omega]
       exact hown1
     clear hown1 hown
     go_wp2
     go_roundw
     case rel => exact ⟨k + 1, by omega, by omega, by go_num, hown2, hb1⟩
     case measure => simp [intOf]; omega
   · obtain rfl : k = n := by omega
     have hown2 : wr.ownsRow w.heap.size 43 9 u3 (fanL l).length (tcs (fanL l)) := by
       have e : l.take k = l := by rw [HL.out]; exact List.take_length
       rw [e] at hown
       rw [fanL_length, ← HL.out]
       exact hown
     clear hown
     go_wp2
     go_ret
     exact ⟨_, rfl, Ts.own hown2, hb⟩
set_option maxHeartbeats 1000000 in
theorem rFan_bad (v : Value) (l : List SV) (z : Int) (w : World) (hv : Vs w v l) (hs : ∀ s ∈ l, s.le 10000000) (hz : polC l 0 = z) (h0 : z ≠ 0) :
   Calls Tryz.prog 14 #[v] w fun e w' => e = .returned (.tuple #[.slice none 0 0, .int .i64 z]) ∧ Below w.heap.size w w' := by
 have H := Lib.hid (fun w hv => rvectors_walk v l w hv hs)
 have H0 : Hid (l.length < 3 → z = 9) := Lib.hid (fun h => by rw [← hz]; unfold polC; rw [if_pos h])
 have H1 : Hid (¬ l.length < 3 → 256 < l.length → z = 8) := Lib.hid (fun h h2 => by rw [← hz]; unfold polC; rw [if_neg h, if_pos (.inl h2)])
 have H2 : Hid (¬ l.length < 3 → ¬ 256 < l.length → l.all isVec = false ∧ z = 1) := Lib.hid (fun h h2 => by
   unfold polC at hz
   rw [if_neg h, if_neg (by omega)] at hz
   cases h3 : l.all isVec with
   | true => rw [h3] at hz; exact absurd hz.symm h0
   | false => rw [h3] at hz; exact ⟨rfl, hz.symm⟩)
 obtain ⟨A, cap, rfl, hn, hc, hcell⟩ := hv.open
 clear hcell hs hz h0
 generalize l.all isVec = r at *
 generalize l.length = m at *
 by_cases h0 : m < 3
 · have E := Lib.hid (H0.out h0)
   have h0' : (m : Int) < 3 := by omega
   clear H0 H1 H2
   go_enter Tryz.func14, Tryz.ntmps14
   go_wp2
   go_ret2
   exact ⟨by rw [E.out]; rfl, bel⟩
 · by_cases h1 : 256 < m
   · have E := Lib.hid (H1.out h0 h1)
     have h1' : (256 : Int) < (m : Int) := by omega
     clear H0 H1 H2
     go_enter Tryz.func14, Tryz.ntmps14
     go_wp2
     go_ret2
     exact ⟨by rw [E.out]; rfl, bel⟩
   · obtain ⟨e1, e2⟩ := H2.out h0 h1
     subst e1 e2
     clear H0 H1 H2
     go_enter Tryz.func14, Tryz.ntmps14
     go_wp2_with fail
     refine (H.out _ (hv.below bel)).mono ?_
     rintro e w1 ⟨rfl, g1⟩
     have B1 := bn (w := w) bel g1
     clear g1
     go_wp2
     go_ret2
     exact ⟨rfl, bel⟩
set_option maxHeartbeats 1000000 in
theorem rFan_ok (v : Value) (l : List SV) (w : World) (hv : Vs w v l) (hs : ∀ s ∈ l, s.le 10000000) (hz : polC l 0 = 0) :
   Calls Tryz.prog 14 #[v] w (Ret fun r w' => (∃ u, r = .tuple #[u, .int .i64 0] ∧ Ts w' u (fanL l)) ∧ Below w.heap.size w w') := by
 have hp := polC_len hz
 have H := Lib.hid (fun w hv => rvectors_walk v l w hv hs)
 have H2 := Lib.hid (fun w hv => rfan_walk v l w hv (by omega) (by omega))
 rw [hp.2.2.2] at H
 obtain ⟨A, cap, rfl, hn, hc, hcell⟩ := hv.open
 obtain ⟨h3, h256, -, -⟩ := hp
 clear hcell hs hz
 generalize l.length = m at *
 have h3' : ¬ (m : Int) < 3 := by omega
 have h4' : ¬ (256 : Int) < (m : Int) := by omega
 go_enter Tryz.func14, Tryz.ntmps14
 go_wp2_with fail
 refine (H.out _ (hv.below bel)).mono ?_
 rintro e w1 ⟨rfl, g1⟩
 have B1 := bn (w := w) bel g1
 clear g1
 go_wp2_with fail
 refine (H2.out _ (hv.below bel)).mono ?_
 rintro e w2 ⟨u, rfl, hu, g2⟩
 have B2 := bn (w := w) bel g2
 clear g2
 obtain ⟨A2, cap2, rfl, -, -, -⟩ := hu.open
 go_wp2
 go_ret2
 exact ⟨_, rfl, ⟨_, rfl, hu⟩, bel⟩
set_option maxHeartbeats 4000000 in
set_option maxRecDepth 100000 in
theorem rturned_walk (v : Value) (l : List TV) (w : World) (hv : Ts w v l) (hm : l.length ≤ 1000000) :
   Calls Tryz.prog 57 #[v] w (Ret fun u w' => w'.ownsRow w.heap.size 43 9 u l.length (tcs (l.map Tr.turn)) ∧ Below w.heap.size w w') := by
 obtain ⟨A, cap, rfl, hn, hc, hcell⟩ := hv.open
 have HCL := Lib.hid hcell
 obtain ⟨n, hlen⟩ : ∃ n, n = l.length := ⟨_, rfl⟩
 have HL := Lib.hid hlen
 have HST0 := Lib.hid (fun (k : Nat) (hk : k < n) => turn_take (show k < l.length by rw [← HL.out]; exact hk))
 rw [← hlen] at hn hm ⊢
 clear hcell hv hlen
 go_enter Tryz.func57, Tryz.ntmps57
 go_wp2
 go_loopw [3, 4] (fun ov ii wr => ∃ k : Nat, k ≤ n ∧ ii = .int .i64 k ∧ wr.ownsRow w.heap.size 43 9 ov k (tcs ((l.take k).map Tr.turn)) ∧ Below w.heap.size w wr) (fun _ ii _ => n - (intOf ii).toNat)
 case atStart => exact ⟨0, by omega, rfl, World.ownsRow_nil _ _ _ _, Below.refl _ _⟩
 case round =>
   obtain ⟨k, hk, rfl, hown, hb⟩ := hrel
   by_cases hlt : k < n
   · obtain ⟨t, hg, hst⟩ := HST0.out k hlt
     obtain ⟨b, off, rfl, hcl⟩ := HCL.out (by rw [← HL.out]; omega)
     have HC := Lib.hid (ts_nine (hcl _ _ hg))
     have HST := Lib.hid hst
     obtain ⟨d0, d1, d2, d3, d4, d5, d6, d7, d8⟩ := ts_nine (fun i u hu => cell_below hb (hcl _ _ hg i u hu))
     clear hst hg hcl
     have hk0 : (0 : Int) ≤ (k : Int) := by omega
     have hkn : (k : Int) < (n : Int) := by omega
     have HTS : Hid (TV.cells t.turn = [.string t.a.x, .string t.a.y, .string t.a.z, .string t.c.x, .string t.c.y, .string t.c.z, .string t.b.x, .string t.b.y, .string t.b.z]) := Lib.hid rfl
     generalize t.a.x = x0 at *
     generalize t.a.y = y0 at *
     generalize t.a.z = z0 at *
     generalize t.b.x = x1 at *
     generalize t.b.y = y1 at *
     generalize t.b.z = z1 at *
     generalize t.c.x = x2 at *
     generalize t.c.y = y2 at *
     generalize t.c.z = z2 at *
     have hsz := hb.size
     go_wp2_with fail
     go_region_held3 (fun w' => w'.cell? ⟨b, off + k * 9, none⟩ = some (.string x0) ∧ w'.cell? ⟨b, off + k * 9 + 1, none⟩ = some (.string y0) ∧ w'.cell? ⟨b, off + k * 9 + 2, none⟩ = some (.string z0) ∧ w'.cell? ⟨b, off + k * 9 + 3, none⟩ = some (.string x1) ∧ w'.cell? ⟨b, off + k * 9 + 4, none⟩ = some (.string y1) ∧ w'.cell? ⟨b, off + k * 9 + 5, none⟩ = some (.string z1) ∧ w'.cell? ⟨b, off + k * 9 + 6, none⟩ = some (.string x2) ∧ w'.cell? ⟨b, off + k * 9 + 7, none⟩ = some (.string y2) ∧ w'.cell? ⟨b, off + k * 9 + 8, none⟩ = some (.string z2) ∧ Below w.heap.size w w')
       ((go_split_ands; exact ⟨cell_below bel HC.out.1, cell_below bel HC.out.2.1, cell_below bel HC.out.2.2.1, cell_below bel HC.out.2.2.2.1, cell_below bel HC.out.2.2.2.2.1, cell_below bel HC.out.2.2.2.2.2.1, cell_below bel HC.out.2.2.2.2.2.2.1, cell_below bel HC.out.2.2.2.2.2.2.2.1, cell_below bel HC.out.2.2.2.2.2.2.2.2, bel⟩))
       ((refine step_append_box (w0 := w) w.heap.size (by rfl) _ _ 28 43 _ 9 144 (by rfl) Tryz.underlying28 info_tri rfl (by omega) (by omega) _ k 1 (tcs ((l.take k).map Tr.turn)) [.string x0, .string y0, .string z0, .string x2, .string y2, .string z2, .string x1, .string y1, .string z1] (by rfl) wr.heap.size (by rfl) (by omega) (by rfl) (by simp [Value.oneCell']) (by first | exact (hown.alloc _).drew | exact hown.drew.alloc _) (by first | exact box_drew (box_at _ _ rfl) | exact box_at _ _ rfl) bel (by (try simp) <;> omega) (by omega) ?_; intro v1 w1 hown1 hb1 hg1))
     have hown2 : w1.ownsRow w.heap.size 43 9 v1 (k + 1) (tcs ((l.take (k + 1)).map Tr.turn)) := by
       rw [HST.out, tcs_append, tcs_one, HTS.out]
       exact hown1
     clear hown1 hown
     go_wp2
     go_roundw
     case rel => exact ⟨k + 1, by omega, by go_num, hown2, hb1⟩
     case measure => simp [intOf]; omega
   · obtain rfl : k = n := by omega
     have hown2 : wr.ownsRow w.heap.size 43 9 u3 k (tcs (l.map Tr.turn)) := by
       have e : l.take k = l := by rw [HL.out]; exact List.take_length
       rw [e] at hown
       exact hown
     clear hown
     go_wp2
     go_ret
     exact ⟨_, rfl, hown2, hb⟩
end Go.Proofs.YtbnbaokamccmjaaGreatDoor

/- garboardref12: Prism. -/
namespace Go.Proofs.YtbnbaokamccmjaaGreatDoor
open Go Go.RowKit
set_option maxHeartbeats 1000000 in
theorem rPrism_len (v : Value) (l : List SV) (x y z : ByteArray) (w : World) (hv : Vs w v l) (hm : l.length ≤ 1000) (u : Int) (hz : polC l (4 * (l.length : Int) - 4) = u) (h9 : u = 9 ∨ u = 8) :
   Calls Tryz.prog 16 #[v, .agg #[.string x, .string y, .string z]] w fun e w' => e = .returned (.tuple #[.slice none 0 0, .int .i64 u]) ∧ Below w.heap.size w w' := by
 have H0 : Hid (l.length < 3 ∧ u = 9 ∨ ¬ l.length < 3 ∧ (256 < l.length ∨ 512 < 4 * (l.length : Int) - 4) ∧ u = 8) := Lib.hid (by
   unfold polC at hz
   split at hz
   · exact .inl ⟨by assumption, hz.symm⟩
   · split at hz
     · exact .inr ⟨by assumption, by assumption, hz.symm⟩
     · split at hz <;> omega)
 obtain ⟨A, cap, rfl, hn, hc, hcell⟩ := hv.open
 clear hcell hz hv h9
 generalize l.length = n at *
 have hw1 : wrap64 ((n : Int) - 2) = (n : Int) - 2 := by unfold wrap64; omega
 have hw2 : wrap64 (2 * ((n : Int) - 2)) = 2 * ((n : Int) - 2) := by unfold wrap64; omega
 have hw3 : wrap64 (2 * (n : Int)) = 2 * (n : Int) := by unfold wrap64; omega
 have hw4 : wrap64 (2 * ((n : Int) - 2) + 2 * (n : Int)) = 2 * ((n : Int) - 2) + 2 * (n : Int) := by unfold wrap64; omega
 rcases H0.out with ⟨h, rfl⟩ | ⟨h, h2, rfl⟩
 · have h1 : (n : Int) < 3 := by omega
   clear H0
   go_enter Tryz.func16, Tryz.ntmps16
   go_wp2
   go_ret2
   exact ⟨rfl, bel⟩
 · have h1 : ¬ (n : Int) < 3 := by omega
   by_cases h3 : 256 < n
   · have h4 : (256 : Int) < (n : Int) := by omega
     clear H0 h2
     go_enter Tryz.func16, Tryz.ntmps16
     go_wp2
     go_ret2
     exact ⟨rfl, bel⟩
   · have h4 : ¬ (256 : Int) < (n : Int) := by omega
     have h5 : (512 : Int) < 2 * ((n : Int) - 2) + 2 * (n : Int) := by omega
     clear H0 h2
     go_enter Tryz.func16, Tryz.ntmps16
     go_wp2
     go_ret2
     exact ⟨rfl, bel⟩
set_option maxHeartbeats 1000000 in
theorem rPrism_arg (v : Value) (l : List SV) (d : SV) (w : World) (hv : Vs w v l) (hs : ∀ s ∈ l, s.le 10000000) (hd : d.le 10000000) (h3 : 3 ≤ l.length) (hm : l.length ≤ 129) (h0 : (l.all isVec && isVec d) = false) :
   Calls Tryz.prog 16 #[v, d.val] w fun e w' => e = .returned (.tuple #[.slice none 0 0, .int .i64 1]) ∧ Below w.heap.size w w' := by
 have H := Lib.hid (fun w hv => rvectors_walk v l w hv hs)
 have H2 := Lib.hid (fun w => wValid_walk d hd w)
 obtain ⟨A, cap, rfl, hn, hc, hcell⟩ := hv.open
 clear hcell hs hd
 generalize l.all isVec = r1 at *
 generalize isVec d = r2 at *
 generalize l.length = n at *
 unfold SV.val at *
 generalize d.x = x at *
 generalize d.y = y at *
 generalize d.z = z at *
 have hw1 : wrap64 ((n : Int) - 2) = (n : Int) - 2 := by unfold wrap64; omega
 have hw2 : wrap64 (2 * ((n : Int) - 2)) = 2 * ((n : Int) - 2) := by unfold wrap64; omega
 have hw3 : wrap64 (2 * (n : Int)) = 2 * (n : Int) := by unfold wrap64; omega
 have hw4 : wrap64 (2 * ((n : Int) - 2) + 2 * (n : Int)) = 2 * ((n : Int) - 2) + 2 * (n : Int) := by unfold wrap64; omega
 have h1 : ¬ (n : Int) < 3 := by omega
 have h4 : ¬ (256 : Int) < (n : Int) := by omega
 have h5 : ¬ (512 : Int) < 2 * ((n : Int) - 2) + 2 * (n : Int) := by omega
 go_enter Tryz.func16, Tryz.ntmps16
 go_wp2_with fail
 refine (H.out _ (hv.below bel)).mono ?_
 rintro e w1 ⟨rfl, g1⟩
 cases r1
 · have B1 := bn (w := w) bel g1
   go_wp2
   go_ret2
   exact ⟨rfl, bel⟩
 · obtain rfl : r2 = false := by simpa using h0
   have hz1 : w.heap.size < w1.heap.size := hzs g1
   have B1 := bn (w := w) bel g1
   have c1_0_0 := bcv g1 w.heap.size 0 (.string x)
   have f1_0_0 := bfv g1 w.heap.size 0
   have c1_0_1 := bcv g1 w.heap.size 1 (.string y)
   have f1_0_1 := bfv g1 w.heap.size 1
   have c1_0_2 := bcv g1 w.heap.size 2 (.string z)
   have f1_0_2 := bfv g1 w.heap.size 2
   clear g1
   go_wp2_with fail
   refine (H2.out _).mono ?_
   rintro e w2 ⟨rfl, g2⟩
   have B2 := bn (w := w) bel g2
   clear g2
   go_wp2
   go_ret2
   exact ⟨rfl, bel⟩
set_option maxHeartbeats 4000000 in
set_option maxRecDepth 100000 in
theorem rPrism_ok (v : Value) (ps : List V3) (d : V3) (w : World) (hv : Vs w v (tvs ps)) (hs : ∀ p ∈ ps, p.le 100000) (hd : d.le 100000) (h3 : 3 ≤ ps.length) (hm : ps.length ≤ 129) :
   Calls Tryz.prog 16 #[v, VV d] w (Ret fun r w' => (∃ u, r = .tuple #[u, .int .i64 0] ∧ Ts w' u (prismL (tvs ps) (tvs (moved ps d)))) ∧ Below w.heap.size w w') := by
 have hle := tvs_le hs (show 2 * 100000 + 2 ≤ 10000000 by omega)
 have hdl := txv_le hd
 have H1 := Lib.hid (fun w hv => rvectors_walk v (tvs ps) w hv hle)
 rw [tvs_valid] at H1
 have H2 := Lib.hid (fun w => wValid_walk (txv d) ⟨Nat.le_trans hdl.1 (by omega), Nat.le_trans hdl.2.1 (by omega), Nat.le_trans hdl.2.2 (by omega)⟩ w)
 rw [isVec_txv, txv_val, VV_eq] at H2
 have H3 := Lib.hid (fun w hv => rfan_walk v (tvs ps) w hv (by rw [tvs_length]; omega) (by rw [tvs_length]; omega))
 have H4 := Lib.hid (fun q w hv => rfan_walk q (tvs (moved ps d)) w hv (by rw [moved_length]; omega) (by rw [moved_length]; omega))
 have H5 := Lib.hid (fun u w hv => rturned_walk u (fanL (tvs ps)) w hv (by rw [fanL_length, tvs_length]; omega))
 rw [fanL_length, tvs_length] at H5
 have HP := Lib.hid (fun (k : Nat) (hk : k < ps.length) => moved_step (d := d) hk)
 have HA := Lib.hid (fun p (hp : p ∈ ps) w => wAdd_ok p d (hs p hp) hd w)
 have HVO := Lib.hid hv
 obtain ⟨A, cap, rfl, hn, hc, hcell⟩ := hv.open
 obtain ⟨b, off, rfl, hcl⟩ := hcell (by rw [tvs_length]; omega)
 have HCL := Lib.hid hcl
 rw [tvs_length] at *
 clear hcell hcl hle hdl hs hd hv
 rw [VV_eq] at *
 have hn3 : ¬ (ps.length : Int) < 3 := by omega
 have hn129 : (ps.length : Int) ≤ 129 := by omega
 have hn256 : ¬ (256 : Int) < (ps.length : Int) := by omega
 obtain ⟨n, hnn⟩ : ∃ n, n = ps.length := ⟨_, rfl⟩
 have HN := Lib.hid hnn
 rw [← hnn] at hn h3 hm hn3 hn129 hn256 H1 H3 H5 HP HVO ⊢
 clear hnn
 have HDX : Hid (VV d = .agg #[.string (rtx d.x), .string (rtx d.y), .string (rtx d.z)]) := Lib.hid rfl
 obtain ⟨d1, hd1⟩ : ∃ s, s = rtx d.x := ⟨_, rfl⟩
 obtain ⟨d2, hd2⟩ : ∃ s, s = rtx d.y := ⟨_, rfl⟩
 obtain ⟨d3, hd3⟩ : ∃ s, s = rtx d.z := ⟨_, rfl⟩
 rw [← hd1, ← hd2, ← hd3] at H2 HA HDX ⊢
 clear hd1 hd2 hd3
 have hw1 : wrap64 ((n : Int) - 2) = (n : Int) - 2 := by unfold wrap64; omega
 have hw2 : wrap64 (2 * ((n : Int) - 2)) = 2 * ((n : Int) - 2) := by unfold wrap64; omega
 have hw3 : wrap64 (2 * (n : Int)) = 2 * (n : Int) := by unfold wrap64; omega
 have hw4 : wrap64 (2 * ((n : Int) - 2) + 2 * (n : Int)) = 2 * ((n : Int) - 2) + 2 * (n : Int) := by unfold wrap64; omega
 have h5 : ¬ (512 : Int) < 2 * ((n : Int) - 2) + 2 * (n : Int) := by omega
 go_enter Tryz.func16, Tryz.ntmps16
 go_wp2_with fail
 refine (H1.out _ (HVO.out.below bel)).mono ?_
 rintro e w1 ⟨rfl, g1⟩
 have hz1 : w.heap.size < w1.heap.size := hzs g1
 have B1 := bn (w := w) bel g1
 have c1_0_0 := bcv g1 w.heap.size 0 (.string d1)
 have f1_0_0 := bfv g1 w.heap.size 0
 have c1_0_1 := bcv g1 w.heap.size 1 (.string d2)
 have f1_0_1 := bfv g1 w.heap.size 1
 have c1_0_2 := bcv g1 w.heap.size 2 (.string d3)
 have f1_0_2 := bfv g1 w.heap.size 2
 clear g1
 go_wp2_with fail
 refine (H2.out _).mono ?_
 rintro e w2 ⟨rfl, g2⟩
 have hz2 : w.heap.size < w2.heap.size := hzs g2
 have B2 := bn (w := w) bel g2
 have c2_0_0 := bcv g2 w.heap.size 0 (.string d1)
 have f2_0_0 := bfv g2 w.heap.size 0
 have c2_0_1 := bcv g2 w.heap.size 1 (.string d2)
 have f2_0_1 := bfv g2 w.heap.size 1
 have c2_0_2 := bcv g2 w.heap.size 2 (.string d3)
 have f2_0_2 := bfv g2 w.heap.size 2
 clear g2
 go_wp2
 have hs2 := B2.size
 clear hw1 hw2 hw3 hw4 h5 hn256
 go_loopw [7, 8] (fun ov ii wr => ∃ k : Nat, k ≤ n ∧ ii = .int .i64 k ∧ wr.ownsRow w2.heap.size 25 3 ov k (svs ((tvs (moved ps d)).take k)) ∧ Below w2.heap.size w2 wr) (fun _ ii _ => n - (intOf ii).toNat)
 case atStart => exact ⟨0, by omega, rfl, World.ownsRow_nil _ _ _ _, Below.refl _ _⟩
 case round =>
   obtain ⟨k, hk, rfl, hown, hb⟩ := hrel
   have hsr := hb.size
   have hbw : Below w.heap.size w wr := bn B2 hb
   by_cases hlt : k < n
   · obtain ⟨p, hp, hg, -, hst⟩ := HP.out k hlt
     obtain ⟨a0, a1, a2⟩ := HCL.out _ _ hg
     simp only [txv] at a0 a1 a2
     have HPL := Lib.hid (fun w => HA.out p hp w)
     have HST := Lib.hid hst
     have e0 := cell_below hb (cell_below B2 a0)
     have e1 := cell_below hb (cell_below B2 a1)
     have e2 := cell_below hb (cell_below B2 a2)
     have e3 := cell_below hb c2_0_0
     have e4 := cell_below hb c2_0_1
     have e5 := cell_below hb c2_0_2
     have hzr : w.heap.size < wr.heap.size := World.block_lt_of_cell? wr _ e3
     have hzb : b < wr.heap.size := World.block_lt_of_cell? wr _ e0
     have hk0 : (0 : Int) ≤ (k : Int) := by omega
     have hkn : (k : Int) < (n : Int) := by omega
     clear a0 a1 a2 hst hg
     rw [VV_eq p, VV_eq (p.add d)] at HPL
     generalize rtx p.x = x1 at *
     generalize rtx p.y = x2 at *
     generalize rtx p.z = x3 at *
     generalize rtx (p.add d).x = r1 at *
     generalize rtx (p.add d).y = r2 at *
     generalize rtx (p.add d).z = r3 at *
     go_upto_region 12 with fail
     go_cut [9] (fun s9 wx => ∃ p : Nat, s9 = .pointer (some ⟨p, 0, none⟩) ∧ Hid (Bk wx p [.string r1, .string r2, .string r3]) ∧ Below wr.heap.size wr wx)
     case first =>
       go_region_held3 (fun w' => w'.cell? ⟨b, off + k * 3, none⟩ = some (.string x1) ∧ w'.cell? ⟨b, off + k * 3 + 1, none⟩ = some (.string x2) ∧ w'.cell? ⟨b, off + k * 3 + 2, none⟩ = some (.string x3) ∧ w'.cell? ⟨w.heap.size, 0, none⟩ = some (.string d1) ∧ w'.cell? ⟨w.heap.size, 1, none⟩ = some (.string d2) ∧ w'.cell? ⟨w.heap.size, 2, none⟩ = some (.string d3) ∧ Below wr.heap.size wr w')
         ((refine (fun hb => ⟨bc hb e0, bc hb e1, bc hb e2, bc hb e3, bc hb e4, bc hb e5, hb⟩) ?_; go_split_ands; repeat (first | with_reducible assumption | (with_reducible exact bd (br _)) | (with_reducible exact br _) | (with_reducible refine bn ?_ g) | (with_reducible refine ba ?_) | (with_reducible refine bd ?_) | (refine bs ?_ ?_; rotate_left; ((try simp) <;> omega)))))
         (first | (go_at_call 56; refine (HPL.out _).mono ?_; rintro e wx1 ⟨rfl, g⟩; have BX : Below wr.heap.size wr wx1 := bn bel g; have hzx := BX.size; (first | (with_reducible have q := ((bk_new _ #[.string ⟨#[]⟩, .string ⟨#[]⟩, .string ⟨#[]⟩] 25).drew).below g) | (with_reducible have q := (bk_new _ #[.string ⟨#[]⟩, .string ⟨#[]⟩, .string ⟨#[]⟩] 25).below g) | skip); (try obtain ⟨o0, o1, o2, f0, f1, f2⟩ := q.c3); (try have hq := q.lt)))
       all_goals
         go_split_ands
         go_wp2_with fail
         go_meet
         first
           | exact ⟨_, rfl, Lib.hid (bk_at rfl), by with_reducible assumption⟩
           | exact ⟨_, rfl, Lib.hid (((q.set 0 (by simp) _).set 1 (by simp) _).set 2 (by simp) _), by with_reducible assumption⟩
           | (trace_state; fail "x")
     case rest =>
       obtain ⟨p9, rfl, HK9, hbx⟩ := hcut
       obtain ⟨w3, hWW⟩ : ∃ x, x = wc := ⟨_, rfl⟩
       subst hWW
       obtain ⟨m0, m1, m2, -⟩ := HK9.out.c3
       have hb3 : Below w2.heap.size w2 w3 := bn hb hbx
       have hown3 : w3.ownsRow w2.heap.size 25 3 u7 k (svs ((tvs (moved ps d)).take k)) := own_below hown hbx
       have hs3 := hb3.size
       clear hbx hown HPL e0 e1 e2 e3 e4 e5
       go_wp2_with (at_builtin; refine append_at (w0 := w2) w2.heap.size rfl (.tmp 54) (.tmp 56) 22 25 _ 3 48 rfl Tryz.underlying22 info_vec rfl (by omega) (by omega) _ k 1 (svs ((tvs (moved ps d)).take k)) [.string r1, .string r2, .string r3] rfl w3.heap.size rfl (by omega) rfl (by simp [Value.oneCell']) (hown3.alloc _) (box_at _ _ rfl) bel (by (try simp) <;> omega) (by omega) ?_; intro v1 w4 hown4 hb4 hg4)
       have hown5 : w4.ownsRow w2.heap.size 25 3 v1 (k + 1) (svs ((tvs (moved ps d)).take (k + 1))) := by
         rw [HST.out]
         exact hown4
       clear hown4 hown3
       go_wp2
       go_roundw
       case rel => exact ⟨k + 1, by omega, by go_num, hown5, hb4⟩
       case measure => simp [intOf]; omega
   · obtain rfl : k = n := by omega
     have hq : Vs wr u7 (tvs (moved ps d)) := by
       have e : (tvs (moved ps d)).take k = tvs (moved ps d) := by rw [show k = (tvs (moved ps d)).length by rw [moved_length]; exact HN.out]; exact List.take_length
       rw [e] at hown
       have h2 : (tvs (moved ps d)).length = k := by rw [moved_length]; exact HN.out.symm
       refine Vs.own (base := w2.heap.size) (e := 25) ?_
       rw [h2]
       exact hown
     clear hown
     have HQ := Lib.hid hq
     obtain ⟨Aq, capq, rfl, hnq, hcq, hcellq⟩ := hq.open
     obtain ⟨bq, offq, rfl, hclq⟩ := hcellq (by rw [moved_length, ← HN.out]; omega)
     have HCQ := Lib.hid hclq
     have hql : (tvs (moved ps d)).length = k := by rw [moved_length]; exact HN.out.symm
     rw [hql] at HQ hnq ⊢
     clear hcellq hclq hq hql
     have hl0 := HVO.out
     go_wp2_with fail
     refine (H3.out _ (hl0.below hbw)).mono ?_
     rintro e w7 ⟨u5, rfl, ht5, g5⟩
     have hb7 : Below w.heap.size w w7 := bn hbw g5
     have hr7 : Below wr.heap.size wr w7 := g5
     have HT5 := Lib.hid ht5
     obtain ⟨A5, cap5, rfl, -, -, -⟩ := ht5.open
     clear ht5
     rw [fanL_length, tvs_length, ← HN.out] at HT5 ⊢
     go_wp2_with fail
     refine (H5.out _ _ HT5.out).mono ?_
     rintro e w6 ⟨u6, rfl, hw6, g6⟩
     have HO6 := Lib.hid hw6
     clear hw6 HT5
     go_wp2_with fail
     refine (H4.out _ _ (HQ.out.below (bn hr7 g6))).mono ?_
     rintro e w7a ⟨u7a, rfl, ht7, g7⟩
     have HO7 := Lib.hid (own_below HO6.out g7)
     have hb7a : Below w7.heap.size w7 w7a := bn g6 g7
     have hs7a := hb7a.size
     have HT7 := Lib.hid ht7
     obtain ⟨A7, cap7, rfl, -, -, -⟩ := ht7.open
     clear ht7 HO6
     unfold Ts at HT7
     rw [fanL_length, moved_length, ← HN.out] at HT7 ⊢
     have HOC := Lib.hid (tcs_one_cell (fanL (tvs (moved ps d))))
     have HT6 := HT7
     go_wp2_with (at_builtin; refine append_rd (w0 := w7) w7.heap.size rfl (.tmp 60) (.tmp 62) 28 43 _ 9 144 rfl Tryz.underlying28 info_tri rfl (by omega) (by omega) _ (k - 2) (k - 2) (tcs ((fanL (tvs ps)).map Tr.turn)) (tcs (fanL (tvs (moved ps d)))) rfl _ rfl HT7.out HOC.out HO7.out hb7a (by omega) (by omega) ?_; intro u8 w8 hown8 hb78 hg8)
     have HO8 : Hid (w8.ownsRow w7.heap.size 43 9 u8 ((fanL (tvs ps)).map Tr.turn ++ fanL (tvs (moved ps d))).length (tcs ((fanL (tvs ps)).map Tr.turn ++ fanL (tvs (moved ps d))))) := Lib.hid (by
       have := hown8
       rw [← tcs_append] at this
       rw [List.length_append, List.length_map, fanL_length, fanL_length, tvs_length, moved_length, ← HN.out]
       exact this)
     have hb8 : Below w.heap.size w w8 := bn hb7 hb78
     clear g5 g6 g7 hown8 hg8 HO7 HT7 HOC hb7a hs7a
     have hLl : (tvs ps).length = k := by rw [tvs_length]; exact HN.out.symm
     have hQl : (tvs (moved ps d)).length = k := by rw [moved_length]; exact HN.out.symm
     have HX := Lib.hid (fun i (hi : i < k) => prismTo_step hLl hQl hi)
     have HXL := Lib.hid (fun i (hi : i ≤ k) => prismTo_length hLl hQl i hi)
     have HXE := Lib.hid (prismTo_end (Q := tvs (moved ps d)) hLl)
     have HO9 : Hid (w8.ownsRow w7.heap.size 43 9 u8 (prismTo (tvs ps) (tvs (moved ps d)) k 0).length (tcs (prismTo (tvs ps) (tvs (moved ps d)) k 0))) := Lib.hid (by
       have := HO8.out
       unfold prismTo
       rw [show sides (tvs ps) (tvs (moved ps d)) k 0 = [] from rfl, List.append_nil]
       exact this)
     clear HO8 hLl hQl H1 H2 H3 H4 H5 HP HA HT6
     generalize hQe : tvs (moved ps d) = Q at *
     generalize hLe : tvs ps = L at *
     have HQE := Lib.hid hQe
     have HLE := Lib.hid hLe
     clear hQe hLe
     obtain ⟨X, hX⟩ : ∃ X : Nat → List TV, X = prismTo L Q k := ⟨_, rfl⟩
     rw [← hX] at HX HXL HXE HO9
     clear hX
     have hs7 := hb7.size
     obtain ⟨wm, hwm⟩ : ∃ wm, wm = wr := ⟨_, rfl⟩
     subst hwm
     go_wp2
     go_loopw [11, 12] (fun ov ii wr => ∃ i : Nat, i ≤ k ∧ ii = .int .i64 i ∧ Hid (wr.ownsRow w7.heap.size 43 9 ov (X i).length (tcs (X i))) ∧ Below w7.heap.size w7 wr) (fun _ ii _ => k - (intOf ii).toNat)
     case atStart => exact ⟨0, by omega, rfl, HO9, hb78⟩
     case round =>
       obtain ⟨i, hi, rfl, hown, hb9⟩ := hrel
       have hs9 := hb9.size
       have hbw9 : Below w.heap.size w wr := bn hb7 hb9
       have hbr9 : Below wm.heap.size wm wr := bn hr7 hb9
       by_cases hlt2 : i < k
       · obtain ⟨sa, sb, sc, sd, h1, h2, h3, h4, hst, hln⟩ := HX.out i hlt2
         have ha := HCL.out _ _ h1
         have hbb := HCL.out _ _ h2
         have hcc := HCQ.out _ _ h3
         have hdd := HCQ.out _ _ h4
         obtain ⟨j, hj⟩ : ∃ j, j = (i + 1) % k := ⟨_, rfl⟩
         rw [← hj] at hbb hcc
         have hjk : j < k := by rw [hj]; exact Nat.mod_lt _ (by omega)
         have hrem : ((i : Int) + 1) % (k : Int) = (j : Int) := by rw [hj, Int.natCast_emod]; rfl
         have hi0 : (0 : Int) ≤ (i : Int) := by omega
         have hik : (i : Int) < (k : Int) := by omega
         have hj0 : (0 : Int) ≤ (j : Int) := by omega
         have hjk2 : (j : Int) < (k : Int) := by omega
         have HST := Lib.hid hst
         have HLN := Lib.hid hln
         have HXi := Lib.hid (HXL.out i hi)
         clear h1 h2 h3 h4 hst hln hj
         have HTA : Hid (TV.cells ⟨sa, sb, sc⟩ ++ TV.cells ⟨sa, sc, sd⟩ = [.string sa.x, .string sa.y, .string sa.z, .string sb.x, .string sb.y, .string sb.z, .string sc.x, .string sc.y, .string sc.z, .string sa.x, .string sa.y, .string sa.z, .string sc.x, .string sc.y, .string sc.z, .string sd.x, .string sd.y, .string sd.z]) := Lib.hid rfl
         have Ha := Lib.hid ha
         have Hb := Lib.hid hbb
         have Hc := Lib.hid hcc
         have Hd := Lib.hid hdd
         clear ha hbb hcc hdd
         generalize sa.x = a0 at *
         generalize sa.y = a1 at *
         generalize sa.z = a2 at *
         generalize sb.x = b0 at *
         generalize sb.y = b1 at *
         generalize sb.z = b2 at *
         generalize sc.x = c0 at *
         generalize sc.y = c1 at *
         generalize sc.z = c2 at *
         generalize sd.x = d0 at *
         generalize sd.y = d1 at *
         generalize sd.z = d2 at *
         have qa0 := cell_below (bn hb7 hb9) Ha.out.1
         have qa1 := cell_below (bn hb7 hb9) Ha.out.2.1
         have qa2 := cell_below (bn hb7 hb9) Ha.out.2.2
         have qb0 := cell_below (bn hb7 hb9) Hb.out.1
         have qb1 := cell_below (bn hb7 hb9) Hb.out.2.1
         have qb2 := cell_below (bn hb7 hb9) Hb.out.2.2
         have qc0 := cell_below (bn hr7 hb9) Hc.out.1
         have qc1 := cell_below (bn hr7 hb9) Hc.out.2.1
         have qc2 := cell_below (bn hr7 hb9) Hc.out.2.2
         have qd0 := cell_below (bn hr7 hb9) Hd.out.1
         have qd1 := cell_below (bn hr7 hb9) Hd.out.2.1
         have qd2 := cell_below (bn hr7 hb9) Hd.out.2.2
         go_wp2_with fail
         go_region_held3 (fun w' => w'.cell? ⟨b, off + i * 3, none⟩ = some (.string a0) ∧ w'.cell? ⟨b, off + i * 3 + 1, none⟩ = some (.string a1) ∧ w'.cell? ⟨b, off + i * 3 + 2, none⟩ = some (.string a2) ∧ w'.cell? ⟨b, off + j * 3, none⟩ = some (.string b0) ∧ w'.cell? ⟨b, off + j * 3 + 1, none⟩ = some (.string b1) ∧ w'.cell? ⟨b, off + j * 3 + 2, none⟩ = some (.string b2) ∧ w'.cell? ⟨bq, offq + j * 3, none⟩ = some (.string c0) ∧ w'.cell? ⟨bq, offq + j * 3 + 1, none⟩ = some (.string c1) ∧ w'.cell? ⟨bq, offq + j * 3 + 2, none⟩ = some (.string c2) ∧ w'.cell? ⟨bq, offq + i * 3, none⟩ = some (.string d0) ∧ w'.cell? ⟨bq, offq + i * 3 + 1, none⟩ = some (.string d1) ∧ w'.cell? ⟨bq, offq + i * 3 + 2, none⟩ = some (.string d2) ∧ Below w7.heap.size w7 w')
           ((go_split_ands; exact ⟨cell_below (bn hb7 bel) Ha.out.1, cell_below (bn hb7 bel) Ha.out.2.1, cell_below (bn hb7 bel) Ha.out.2.2, cell_below (bn hb7 bel) Hb.out.1, cell_below (bn hb7 bel) Hb.out.2.1, cell_below (bn hb7 bel) Hb.out.2.2, cell_below (bn hr7 bel) Hc.out.1, cell_below (bn hr7 bel) Hc.out.2.1, cell_below (bn hr7 bel) Hc.out.2.2, cell_below (bn hr7 bel) Hd.out.1, cell_below (bn hr7 bel) Hd.out.2.1, cell_below (bn hr7 bel) Hd.out.2.2, bel⟩))
           ((refine step_append_box (w0 := w7) w7.heap.size (by rfl) _ _ 28 43 _ 9 144 (by rfl) Tryz.underlying28 info_tri rfl (by omega) (by omega) _ (X i).length 2 (tcs (X i)) [.string a0, .string a1, .string a2, .string b0, .string b1, .string b2, .string c0, .string c1, .string c2, .string a0, .string a1, .string a2, .string c0, .string c1, .string c2, .string d0, .string d1, .string d2] (by rfl) wr.heap.size (by rfl) (by omega) (by rfl) (by simp [Value.oneCell']) (by first | exact (hown.out.alloc _).drew | exact hown.out.drew.alloc _) (by first | exact box_drew (box_at _ _ rfl) | exact box_at _ _ rfl) bel (by (try simp) <;> omega) (by have := HXi.out; omega) ?_; intro v1 w9 hown9 hb10 hg9))
         have hown10 : Hid (w9.ownsRow w7.heap.size 43 9 v1 (X (i + 1)).length (tcs (X (i + 1)))) := Lib.hid (by
           rw [HST.out, HLN.out, HTA.out]
           exact hown9)
         clear hown9 hown
         go_wp2
         go_roundw
         case rel => exact ⟨i + 1, by omega, by go_num, hown10, hb10⟩
         case measure => simp [intOf]; omega
       · obtain rfl : i = k := by omega
         have HR := hown.out
         rw [HXE.out, ← HLE.out, ← HQE.out] at HR
         have HR2 := Lib.hid (Ts.own HR)
         clear HR hown
         go_wp2
         go_ret2
         exact ⟨_, rfl, ⟨_, rfl, HR2.out⟩, hbw9⟩
end Go.Proofs.YtbnbaokamccmjaaGreatDoor

/- garboardref12: Box. -/
namespace Go.Proofs.YtbnbaokamccmjaaGreatDoor
open Go Go.RowKit
set_option maxHeartbeats 4000000 in
set_option maxRecDepth 100000 in
theorem rbox_arg (a1 a2 a3 b1 b2 b3 : ByteArray) (r1 r2 : Bool) (x y d : V3) (gx gy gz : Int) (t : ByteArray) (Q : World → Value → Prop) (w : World)
   (hr : (r1 && r2) = false)
   (h1 : ∀ w, Calls Tryz.prog 61 #[.agg #[.string a1, .string a2, .string a3]] w fun e w' => VB r1 x w w' e)
   (h2 : ∀ w, Calls Tryz.prog 61 #[.agg #[.string b1, .string b2, .string b3]] w fun e w' => VB r2 y w w' e) :
   Calls Tryz.prog 18 #[.agg #[.string a1, .string a2, .string a3], .agg #[.string b1, .string b2, .string b3]] w (fun e w' => e = .returned (.tuple #[.slice none 0 0, .int .i64 1]) ∧ Below w.heap.size w w') := by
 have H1 := Lib.hid h1
 clear h1
 have H2 := Lib.hid h2
 clear h2
 go_enter Tryz.func18, Tryz.ntmps18
 go_wp2_with fail
 refine (H1.out _).mono ?_
 rintro e w1 ⟨z1, rfl, hx, g1_⟩
 obtain ⟨pA1, pa1, pB1, pb1, pA2, pa2, pB2, pb2, pA3, pa3, pB3, pb3, hE, ph1, ph2, ph3⟩ := hx.open
 subst hE
 have KA1 : Bk w1 (w.heap.size) [.string a1, .string a2, .string a3] := Bk.below bkk g1_
 have KB1 : Bk w1 (w.heap.size + 1) [.string b1, .string b2, .string b3] := Bk.below bkk g1_
 have BB1 := bn (w := w) bel g1_
 clear g1_ ph1 ph2 ph3
 have zb1 := KB1.lt
 have za1 : w.heap.size < w1.heap.size := by omega
 obtain ⟨n10, n11, n12, -⟩ := KB1.c3
 go_wp2_with fail
 refine (H2.out _).mono ?_
 rintro e w2 ⟨z2, rfl, hy, g2_⟩
 obtain ⟨qA1, qa1, qB1, qb1, qA2, qa2, qB2, qb2, qA3, qa3, qB3, qb3, hE, qh1, qh2, qh3⟩ := hy.open
 subst hE
 have KA2 : Bk w2 (w.heap.size) [.string a1, .string a2, .string a3] := Bk.below bkk g2_
 have KB2 : Bk w2 (w.heap.size + 1) [.string b1, .string b2, .string b3] := Bk.below bkk g2_
 have BB2 := bn (w := w) bel g2_
 have KX2 : Bk w2 (w1.heap.size) [.bool (decide (x.x.num < 0)), .slice pA1 (wds x.x.num.natAbs).length pa1, .slice pB1 (wds x.x.den).length pb1, .bool (decide (x.y.num < 0)), .slice pA2 (wds x.y.num.natAbs).length pa2, .slice pB2 (wds x.y.den).length pb2, .bool (decide (x.z.num < 0)), .slice pA3 (wds x.z.num.natAbs).length pa3, .slice pB3 (wds x.z.den).length pb3] := Bk.below (bk_at rfl) g2_
 replace hx := Vn.below (Vn.below hx bup) g2_
 clear g2_ qh1 qh2 qh3 KA1 KB1 BB1 n10 n11 n12
 have zb2 := KB2.lt
 have za2 : w.heap.size < w2.heap.size := by omega
 cases r1
 · go_wp2
   go_ret2
   exact ⟨rfl, bel⟩
 · obtain rfl : r2 = false := by simpa using hr
   go_wp2
   go_ret2
   exact ⟨rfl, bel⟩
set_option maxHeartbeats 4000000 in
set_option maxRecDepth 100000 in
theorem rbox_range0 (a1 a2 a3 b1 b2 b3 : ByteArray) (r1 r2 : Bool) (x y d : V3) (gx gy gz : Int) (t : ByteArray) (Q : World → Value → Prop) (w : World)
   (h1 : ∀ w, Calls Tryz.prog 61 #[.agg #[.string a1, .string a2, .string a3]] w fun e w' => VB true x w w' e)
   (h2 : ∀ w, Calls Tryz.prog 61 #[.agg #[.string b1, .string b2, .string b3]] w fun e w' => VB true y w w' e)
   (hm : ∀ u v W, Vn W u y → Vn W v x → Calls Tryz.prog 62 #[u, v] W (Ret fun v' w' => Vn w' v' d ∧ Below W.heap.size W w'))
   (hs1 : ∀ u W, Qn W u d.x → Calls Tryz.prog 63 #[u] W fun e w' => e = .returned (.int .i64 gx) ∧ Below W.heap.size W w')
   (q1 : gx ≤ 0) :
   Calls Tryz.prog 18 #[.agg #[.string a1, .string a2, .string a3], .agg #[.string b1, .string b2, .string b3]] w (fun e w' => e = .returned (.tuple #[.slice none 0 0, .int .i64 2]) ∧ Below w.heap.size w w') := by
 have H1 := Lib.hid h1
 clear h1
 have H2 := Lib.hid h2
 clear h2
 have HM := Lib.hid hm
 clear hm
 have HS1 := Lib.hid hs1
 clear hs1
 go_enter Tryz.func18, Tryz.ntmps18
 go_wp2_with fail
 refine (H1.out _).mono ?_
 rintro e w1 ⟨z1, rfl, hx, g1_⟩
 obtain ⟨pA1, pa1, pB1, pb1, pA2, pa2, pB2, pb2, pA3, pa3, pB3, pb3, hE, ph1, ph2, ph3⟩ := hx.open
 subst hE
 have KA1 : Bk w1 (w.heap.size) [.string a1, .string a2, .string a3] := Bk.below bkk g1_
 have KB1 : Bk w1 (w.heap.size + 1) [.string b1, .string b2, .string b3] := Bk.below bkk g1_
 have BB1 := bn (w := w) bel g1_
 clear g1_ ph1 ph2 ph3
 have zb1 := KB1.lt
 have za1 : w.heap.size < w1.heap.size := by omega
 obtain ⟨n10, n11, n12, -⟩ := KB1.c3
 go_wp2_with fail
 refine (H2.out _).mono ?_
 rintro e w2 ⟨z2, rfl, hy, g2_⟩
 obtain ⟨qA1, qa1, qB1, qb1, qA2, qa2, qB2, qb2, qA3, qa3, qB3, qb3, hE, qh1, qh2, qh3⟩ := hy.open
 subst hE
 have KA2 : Bk w2 (w.heap.size) [.string a1, .string a2, .string a3] := Bk.below bkk g2_
 have KB2 : Bk w2 (w.heap.size + 1) [.string b1, .string b2, .string b3] := Bk.below bkk g2_
 have BB2 := bn (w := w) bel g2_
 have KX2 : Bk w2 (w1.heap.size) [.bool (decide (x.x.num < 0)), .slice pA1 (wds x.x.num.natAbs).length pa1, .slice pB1 (wds x.x.den).length pb1, .bool (decide (x.y.num < 0)), .slice pA2 (wds x.y.num.natAbs).length pa2, .slice pB2 (wds x.y.den).length pb2, .bool (decide (x.z.num < 0)), .slice pA3 (wds x.z.num.natAbs).length pa3, .slice pB3 (wds x.z.den).length pb3] := Bk.below (bk_at rfl) g2_
 replace hx := Vn.below (Vn.below hx bup) g2_
 clear g2_ qh1 qh2 qh3 KA1 KB1 BB1 n10 n11 n12
 have zb2 := KB2.lt
 have za2 : w.heap.size < w2.heap.size := by omega
 have zx2 := KX2.lt
 obtain ⟨⟨x0, x1, x2, x3, x4, x5, x6, x7, x8⟩, -⟩ := KX2.c9
 go_wp2_with fail
 refine (HM.out _ _ _ (Vn.below hy bup) (Vn.below hx bup)).mono ?_
 rintro e w3 ⟨z3, rfl, hd, g3_⟩
 obtain ⟨rA1, ra1, rB1, rb1, rA2, ra2, rB2, rb2, rA3, ra3, rB3, rb3, hE, rh1, rh2, rh3⟩ := hd.open
 subst hE
 have KA3 : Bk w3 (w.heap.size) [.string a1, .string a2, .string a3] := Bk.below bkk g3_
 have KB3 : Bk w3 (w.heap.size + 1) [.string b1, .string b2, .string b3] := Bk.below bkk g3_
 have BB3 := bn (w := w) bel g3_
 clear g3_ KA2 KB2 BB2 KX2 hx hy x0 x1 x2 x3 x4 x5 x6 x7 x8
 have zb3 := KB3.lt
 have za3 : w.heap.size < w3.heap.size := by omega
 go_wp2_with fail
 refine (HS1.out _ _ (Qn.below rh1 bup)).mono ?_
 rintro e w4 ⟨rfl, g4_⟩
 have KA4 : Bk w4 (w.heap.size) [.string a1, .string a2, .string a3] := Bk.below bkk g4_
 have KB4 : Bk w4 (w.heap.size + 1) [.string b1, .string b2, .string b3] := Bk.below bkk g4_
 have BB4 := bn (w := w) bel g4_
 have KD4 : Bk w4 (w3.heap.size) [.bool (decide (d.x.num < 0)), .slice rA1 (wds d.x.num.natAbs).length ra1, .slice rB1 (wds d.x.den).length rb1, .bool (decide (d.y.num < 0)), .slice rA2 (wds d.y.num.natAbs).length ra2, .slice rB2 (wds d.y.den).length rb2, .bool (decide (d.z.num < 0)), .slice rA3 (wds d.z.num.natAbs).length ra3, .slice rB3 (wds d.z.den).length rb3] := Bk.below (bk_at rfl) g4_
 replace rh1 := Qn.below (Qn.below rh1 bup) g4_
 replace rh2 := Qn.below (Qn.below rh2 bup) g4_
 replace rh3 := Qn.below (Qn.below rh3 bup) g4_
 clear g4_ KA3 KB3 BB3
 have zb4 := KB4.lt
 have za4 : w.heap.size < w4.heap.size := by omega
 go_wp2
 go_ret2
 exact ⟨rfl, bel⟩
set_option maxHeartbeats 4000000 in
set_option maxRecDepth 100000 in
theorem rbox_range1 (a1 a2 a3 b1 b2 b3 : ByteArray) (r1 r2 : Bool) (x y d : V3) (gx gy gz : Int) (t : ByteArray) (Q : World → Value → Prop) (w : World)
   (h1 : ∀ w, Calls Tryz.prog 61 #[.agg #[.string a1, .string a2, .string a3]] w fun e w' => VB true x w w' e)
   (h2 : ∀ w, Calls Tryz.prog 61 #[.agg #[.string b1, .string b2, .string b3]] w fun e w' => VB true y w w' e)
   (hm : ∀ u v W, Vn W u y → Vn W v x → Calls Tryz.prog 62 #[u, v] W (Ret fun v' w' => Vn w' v' d ∧ Below W.heap.size W w'))
   (hs1 : ∀ u W, Qn W u d.x → Calls Tryz.prog 63 #[u] W fun e w' => e = .returned (.int .i64 gx) ∧ Below W.heap.size W w')
   (hs2 : ∀ u W, Qn W u d.y → Calls Tryz.prog 63 #[u] W fun e w' => e = .returned (.int .i64 gy) ∧ Below W.heap.size W w')
   (q1 : ¬ gx ≤ 0) (q2 : gy ≤ 0) :
   Calls Tryz.prog 18 #[.agg #[.string a1, .string a2, .string a3], .agg #[.string b1, .string b2, .string b3]] w (fun e w' => e = .returned (.tuple #[.slice none 0 0, .int .i64 2]) ∧ Below w.heap.size w w') := by
 have H1 := Lib.hid h1
 clear h1
 have H2 := Lib.hid h2
 clear h2
 have HM := Lib.hid hm
 clear hm
 have HS1 := Lib.hid hs1
 clear hs1
 have HS2 := Lib.hid hs2
 clear hs2
 go_enter Tryz.func18, Tryz.ntmps18
 go_wp2_with fail
 refine (H1.out _).mono ?_
 rintro e w1 ⟨z1, rfl, hx, g1_⟩
 obtain ⟨pA1, pa1, pB1, pb1, pA2, pa2, pB2, pb2, pA3, pa3, pB3, pb3, hE, ph1, ph2, ph3⟩ := hx.open
 subst hE
 have KA1 : Bk w1 (w.heap.size) [.string a1, .string a2, .string a3] := Bk.below bkk g1_
 have KB1 : Bk w1 (w.heap.size + 1) [.string b1, .string b2, .string b3] := Bk.below bkk g1_
 have BB1 := bn (w := w) bel g1_
 clear g1_ ph1 ph2 ph3
 have zb1 := KB1.lt
 have za1 : w.heap.size < w1.heap.size := by omega
 obtain ⟨n10, n11, n12, -⟩ := KB1.c3
 go_wp2_with fail
 refine (H2.out _).mono ?_
 rintro e w2 ⟨z2, rfl, hy, g2_⟩
 obtain ⟨qA1, qa1, qB1, qb1, qA2, qa2, qB2, qb2, qA3, qa3, qB3, qb3, hE, qh1, qh2, qh3⟩ := hy.open
 subst hE
 have KA2 : Bk w2 (w.heap.size) [.string a1, .string a2, .string a3] := Bk.below bkk g2_
 have KB2 : Bk w2 (w.heap.size + 1) [.string b1, .string b2, .string b3] := Bk.below bkk g2_
 have BB2 := bn (w := w) bel g2_
 have KX2 : Bk w2 (w1.heap.size) [.bool (decide (x.x.num < 0)), .slice pA1 (wds x.x.num.natAbs).length pa1, .slice pB1 (wds x.x.den).length pb1, .bool (decide (x.y.num < 0)), .slice pA2 (wds x.y.num.natAbs).length pa2, .slice pB2 (wds x.y.den).length pb2, .bool (decide (x.z.num < 0)), .slice pA3 (wds x.z.num.natAbs).length pa3, .slice pB3 (wds x.z.den).length pb3] := Bk.below (bk_at rfl) g2_
 replace hx := Vn.below (Vn.below hx bup) g2_
 clear g2_ qh1 qh2 qh3 KA1 KB1 BB1 n10 n11 n12
 have zb2 := KB2.lt
 have za2 : w.heap.size < w2.heap.size := by omega
 have zx2 := KX2.lt
 obtain ⟨⟨x0, x1, x2, x3, x4, x5, x6, x7, x8⟩, -⟩ := KX2.c9
 go_wp2_with fail
 refine (HM.out _ _ _ (Vn.below hy bup) (Vn.below hx bup)).mono ?_
 rintro e w3 ⟨z3, rfl, hd, g3_⟩
 obtain ⟨rA1, ra1, rB1, rb1, rA2, ra2, rB2, rb2, rA3, ra3, rB3, rb3, hE, rh1, rh2, rh3⟩ := hd.open
 subst hE
 have KA3 : Bk w3 (w.heap.size) [.string a1, .string a2, .string a3] := Bk.below bkk g3_
 have KB3 : Bk w3 (w.heap.size + 1) [.string b1, .string b2, .string b3] := Bk.below bkk g3_
 have BB3 := bn (w := w) bel g3_
 clear g3_ KA2 KB2 BB2 KX2 hx hy x0 x1 x2 x3 x4 x5 x6 x7 x8
 have zb3 := KB3.lt
 have za3 : w.heap.size < w3.heap.size := by omega
 go_wp2_with fail
 refine (HS1.out _ _ (Qn.below rh1 bup)).mono ?_
 rintro e w4 ⟨rfl, g4_⟩
 have KA4 : Bk w4 (w.heap.size) [.string a1, .string a2, .string a3] := Bk.below bkk g4_
 have KB4 : Bk w4 (w.heap.size + 1) [.string b1, .string b2, .string b3] := Bk.below bkk g4_
 have BB4 := bn (w := w) bel g4_
 have KD4 : Bk w4 (w3.heap.size) [.bool (decide (d.x.num < 0)), .slice rA1 (wds d.x.num.natAbs).length ra1, .slice rB1 (wds d.x.den).length rb1, .bool (decide (d.y.num < 0)), .slice rA2 (wds d.y.num.natAbs).length ra2, .slice rB2 (wds d.y.den).length rb2, .bool (decide (d.z.num < 0)), .slice rA3 (wds d.z.num.natAbs).length ra3, .slice rB3 (wds d.z.den).length rb3] := Bk.below (bk_at rfl) g4_
 replace rh1 := Qn.below (Qn.below rh1 bup) g4_
 replace rh2 := Qn.below (Qn.below rh2 bup) g4_
 replace rh3 := Qn.below (Qn.below rh3 bup) g4_
 clear g4_ KA3 KB3 BB3
 have zb4 := KB4.lt
 have za4 : w.heap.size < w4.heap.size := by omega
 obtain ⟨⟨y5_0, y5_1, y5_2, y5_3, y5_4, y5_5, y5_6, y5_7, y5_8⟩, -⟩ := KD4.c9
 have zd5 := KD4.lt
 go_wp2_with fail
 refine (HS2.out _ _ (Qn.below rh2 bup)).mono ?_
 rintro e w5 ⟨rfl, g5_⟩
 have KA5 : Bk w5 (w.heap.size) [.string a1, .string a2, .string a3] := Bk.below bkk g5_
 have KB5 : Bk w5 (w.heap.size + 1) [.string b1, .string b2, .string b3] := Bk.below bkk g5_
 have BB5 := bn (w := w) bel g5_
 have KD5 : Bk w5 (w3.heap.size) [.bool (decide (d.x.num < 0)), .slice rA1 (wds d.x.num.natAbs).length ra1, .slice rB1 (wds d.x.den).length rb1, .bool (decide (d.y.num < 0)), .slice rA2 (wds d.y.num.natAbs).length ra2, .slice rB2 (wds d.y.den).length rb2, .bool (decide (d.z.num < 0)), .slice rA3 (wds d.z.num.natAbs).length ra3, .slice rB3 (wds d.z.den).length rb3] := Bk.below bkk g5_
 replace rh1 := Qn.below (Qn.below rh1 bup) g5_
 replace rh2 := Qn.below (Qn.below rh2 bup) g5_
 replace rh3 := Qn.below (Qn.below rh3 bup) g5_
 clear g5_ KA4 KB4 BB4 KD4 y5_0 y5_1 y5_2 y5_3 y5_4 y5_5 y5_6 y5_7 y5_8
 have zb5 := KB5.lt
 have za5 : w.heap.size < w5.heap.size := by omega
 go_wp2
 go_ret2
 exact ⟨rfl, bel⟩
set_option maxHeartbeats 4000000 in
set_option maxRecDepth 100000 in
theorem rbox_range2 (a1 a2 a3 b1 b2 b3 : ByteArray) (r1 r2 : Bool) (x y d : V3) (gx gy gz : Int) (t : ByteArray) (Q : World → Value → Prop) (w : World)
   (h1 : ∀ w, Calls Tryz.prog 61 #[.agg #[.string a1, .string a2, .string a3]] w fun e w' => VB true x w w' e)
   (h2 : ∀ w, Calls Tryz.prog 61 #[.agg #[.string b1, .string b2, .string b3]] w fun e w' => VB true y w w' e)
   (hm : ∀ u v W, Vn W u y → Vn W v x → Calls Tryz.prog 62 #[u, v] W (Ret fun v' w' => Vn w' v' d ∧ Below W.heap.size W w'))
   (hs1 : ∀ u W, Qn W u d.x → Calls Tryz.prog 63 #[u] W fun e w' => e = .returned (.int .i64 gx) ∧ Below W.heap.size W w')
   (hs2 : ∀ u W, Qn W u d.y → Calls Tryz.prog 63 #[u] W fun e w' => e = .returned (.int .i64 gy) ∧ Below W.heap.size W w')
   (hs3 : ∀ u W, Qn W u d.z → Calls Tryz.prog 63 #[u] W fun e w' => e = .returned (.int .i64 gz) ∧ Below W.heap.size W w')
   (q1 : ¬ gx ≤ 0) (q2 : ¬ gy ≤ 0) (q3 : gz ≤ 0) :
   Calls Tryz.prog 18 #[.agg #[.string a1, .string a2, .string a3], .agg #[.string b1, .string b2, .string b3]] w (fun e w' => e = .returned (.tuple #[.slice none 0 0, .int .i64 2]) ∧ Below w.heap.size w w') := by
 have H1 := Lib.hid h1
 clear h1
 have H2 := Lib.hid h2
 clear h2
 have HM := Lib.hid hm
 clear hm
 have HS1 := Lib.hid hs1
 clear hs1
 have HS2 := Lib.hid hs2
 clear hs2
 have HS3 := Lib.hid hs3
 clear hs3
 go_enter Tryz.func18, Tryz.ntmps18
 go_wp2_with fail
 refine (H1.out _).mono ?_
 rintro e w1 ⟨z1, rfl, hx, g1_⟩
 obtain ⟨pA1, pa1, pB1, pb1, pA2, pa2, pB2, pb2, pA3, pa3, pB3, pb3, hE, ph1, ph2, ph3⟩ := hx.open
 subst hE
 have KA1 : Bk w1 (w.heap.size) [.string a1, .string a2, .string a3] := Bk.below bkk g1_
 have KB1 : Bk w1 (w.heap.size + 1) [.string b1, .string b2, .string b3] := Bk.below bkk g1_
 have BB1 := bn (w := w) bel g1_
 clear g1_ ph1 ph2 ph3
 have zb1 := KB1.lt
 have za1 : w.heap.size < w1.heap.size := by omega
 obtain ⟨n10, n11, n12, -⟩ := KB1.c3
 go_wp2_with fail
 refine (H2.out _).mono ?_
 rintro e w2 ⟨z2, rfl, hy, g2_⟩
 obtain ⟨qA1, qa1, qB1, qb1, qA2, qa2, qB2, qb2, qA3, qa3, qB3, qb3, hE, qh1, qh2, qh3⟩ := hy.open
 subst hE
 have KA2 : Bk w2 (w.heap.size) [.string a1, .string a2, .string a3] := Bk.below bkk g2_
 have KB2 : Bk w2 (w.heap.size + 1) [.string b1, .string b2, .string b3] := Bk.below bkk g2_
 have BB2 := bn (w := w) bel g2_
 have KX2 : Bk w2 (w1.heap.size) [.bool (decide (x.x.num < 0)), .slice pA1 (wds x.x.num.natAbs).length pa1, .slice pB1 (wds x.x.den).length pb1, .bool (decide (x.y.num < 0)), .slice pA2 (wds x.y.num.natAbs).length pa2, .slice pB2 (wds x.y.den).length pb2, .bool (decide (x.z.num < 0)), .slice pA3 (wds x.z.num.natAbs).length pa3, .slice pB3 (wds x.z.den).length pb3] := Bk.below (bk_at rfl) g2_
 replace hx := Vn.below (Vn.below hx bup) g2_
 clear g2_ qh1 qh2 qh3 KA1 KB1 BB1 n10 n11 n12
 have zb2 := KB2.lt
 have za2 : w.heap.size < w2.heap.size := by omega
 have zx2 := KX2.lt
 obtain ⟨⟨x0, x1, x2, x3, x4, x5, x6, x7, x8⟩, -⟩ := KX2.c9
 go_wp2_with fail
 refine (HM.out _ _ _ (Vn.below hy bup) (Vn.below hx bup)).mono ?_
 rintro e w3 ⟨z3, rfl, hd, g3_⟩
 obtain ⟨rA1, ra1, rB1, rb1, rA2, ra2, rB2, rb2, rA3, ra3, rB3, rb3, hE, rh1, rh2, rh3⟩ := hd.open
 subst hE
 have KA3 : Bk w3 (w.heap.size) [.string a1, .string a2, .string a3] := Bk.below bkk g3_
 have KB3 : Bk w3 (w.heap.size + 1) [.string b1, .string b2, .string b3] := Bk.below bkk g3_
 have BB3 := bn (w := w) bel g3_
 clear g3_ KA2 KB2 BB2 KX2 hx hy x0 x1 x2 x3 x4 x5 x6 x7 x8
 have zb3 := KB3.lt
 have za3 : w.heap.size < w3.heap.size := by omega
 go_wp2_with fail
 refine (HS1.out _ _ (Qn.below rh1 bup)).mono ?_
 rintro e w4 ⟨rfl, g4_⟩
 have KA4 : Bk w4 (w.heap.size) [.string a1, .string a2, .string a3] := Bk.below bkk g4_
 have KB4 : Bk w4 (w.heap.size + 1) [.string b1, .string b2, .string b3] := Bk.below bkk g4_
 have BB4 := bn (w := w) bel g4_
 have KD4 : Bk w4 (w3.heap.size) [.bool (decide (d.x.num < 0)), .slice rA1 (wds d.x.num.natAbs).length ra1, .slice rB1 (wds d.x.den).length rb1, .bool (decide (d.y.num < 0)), .slice rA2 (wds d.y.num.natAbs).length ra2, .slice rB2 (wds d.y.den).length rb2, .bool (decide (d.z.num < 0)), .slice rA3 (wds d.z.num.natAbs).length ra3, .slice rB3 (wds d.z.den).length rb3] := Bk.below (bk_at rfl) g4_
 replace rh1 := Qn.below (Qn.below rh1 bup) g4_
 replace rh2 := Qn.below (Qn.below rh2 bup) g4_
 replace rh3 := Qn.below (Qn.below rh3 bup) g4_
 clear g4_ KA3 KB3 BB3
 have zb4 := KB4.lt
 have za4 : w.heap.size < w4.heap.size := by omega
 obtain ⟨⟨y5_0, y5_1, y5_2, y5_3, y5_4, y5_5, y5_6, y5_7, y5_8⟩, -⟩ := KD4.c9
 have zd5 := KD4.lt
 go_wp2_with fail
 refine (HS2.out _ _ (Qn.below rh2 bup)).mono ?_
 rintro e w5 ⟨rfl, g5_⟩
 have KA5 : Bk w5 (w.heap.size) [.string a1, .string a2, .string a3] := Bk.below bkk g5_
 have KB5 : Bk w5 (w.heap.size + 1) [.string b1, .string b2, .string b3] := Bk.below bkk g5_
 have BB5 := bn (w := w) bel g5_
 have KD5 : Bk w5 (w3.heap.size) [.bool (decide (d.x.num < 0)), .slice rA1 (wds d.x.num.natAbs).length ra1, .slice rB1 (wds d.x.den).length rb1, .bool (decide (d.y.num < 0)), .slice rA2 (wds d.y.num.natAbs).length ra2, .slice rB2 (wds d.y.den).length rb2, .bool (decide (d.z.num < 0)), .slice rA3 (wds d.z.num.natAbs).length ra3, .slice rB3 (wds d.z.den).length rb3] := Bk.below bkk g5_
 replace rh1 := Qn.below (Qn.below rh1 bup) g5_
 replace rh2 := Qn.below (Qn.below rh2 bup) g5_
 replace rh3 := Qn.below (Qn.below rh3 bup) g5_
 clear g5_ KA4 KB4 BB4 KD4 y5_0 y5_1 y5_2 y5_3 y5_4 y5_5 y5_6 y5_7 y5_8
 have zb5 := KB5.lt
 have za5 : w.heap.size < w5.heap.size := by omega
 obtain ⟨⟨y6_0, y6_1, y6_2, y6_3, y6_4, y6_5, y6_6, y6_7, y6_8⟩, -⟩ := KD5.c9
 have zd6 := KD5.lt
 go_wp2_with fail
 refine (HS3.out _ _ (Qn.below rh3 bup)).mono ?_
 rintro e w6 ⟨rfl, g6_⟩
 have KA6 : Bk w6 (w.heap.size) [.string a1, .string a2, .string a3] := Bk.below bkk g6_
 have KB6 : Bk w6 (w.heap.size + 1) [.string b1, .string b2, .string b3] := Bk.below bkk g6_
 have BB6 := bn (w := w) bel g6_
 have KD6 : Bk w6 (w3.heap.size) [.bool (decide (d.x.num < 0)), .slice rA1 (wds d.x.num.natAbs).length ra1, .slice rB1 (wds d.x.den).length rb1, .bool (decide (d.y.num < 0)), .slice rA2 (wds d.y.num.natAbs).length ra2, .slice rB2 (wds d.y.den).length rb2, .bool (decide (d.z.num < 0)), .slice rA3 (wds d.z.num.natAbs).length ra3, .slice rB3 (wds d.z.den).length rb3] := Bk.below bkk g6_
 replace rh1 := Qn.below (Qn.below rh1 bup) g6_
 replace rh2 := Qn.below (Qn.below rh2 bup) g6_
 replace rh3 := Qn.below (Qn.below rh3 bup) g6_
 clear g6_ KA5 KB5 BB5 KD5 y6_0 y6_1 y6_2 y6_3 y6_4 y6_5 y6_6 y6_7 y6_8
 have zb6 := KB6.lt
 have za6 : w.heap.size < w6.heap.size := by omega
 go_wp2
 go_ret2
 exact ⟨rfl, bel⟩
set_option maxHeartbeats 4000000 in
set_option maxRecDepth 100000 in
theorem rbox_ok (a1 a2 a3 b1 b2 b3 : ByteArray) (r1 r2 : Bool) (x y d : V3) (gx gy gz : Int) (t : ByteArray) (Q : World → Value → Prop) (w : World)
   (h1 : ∀ w, Calls Tryz.prog 61 #[.agg #[.string a1, .string a2, .string a3]] w fun e w' => VB true x w w' e)
   (h2 : ∀ w, Calls Tryz.prog 61 #[.agg #[.string b1, .string b2, .string b3]] w fun e w' => VB true y w w' e)
   (hm : ∀ u v W, Vn W u y → Vn W v x → Calls Tryz.prog 62 #[u, v] W (Ret fun v' w' => Vn w' v' d ∧ Below W.heap.size W w'))
   (hs1 : ∀ u W, Qn W u d.x → Calls Tryz.prog 63 #[u] W fun e w' => e = .returned (.int .i64 gx) ∧ Below W.heap.size W w')
   (hs2 : ∀ u W, Qn W u d.y → Calls Tryz.prog 63 #[u] W fun e w' => e = .returned (.int .i64 gy) ∧ Below W.heap.size W w')
   (hs3 : ∀ u W, Qn W u d.z → Calls Tryz.prog 63 #[u] W fun e w' => e = .returned (.int .i64 gz) ∧ Below W.heap.size W w')
   (q1 : ¬ gx ≤ 0) (q2 : ¬ gy ≤ 0) (q3 : ¬ gz ≤ 0)
   (ht : ∀ u W, Qn W u d.z → Calls Tryz.prog 64 #[u] W fun e w' => e = .returned (.string t) ∧ Below W.heap.size W w')
   (hp : ∀ p w, Bk w p [.string a1, .string a2, .string a3, .string b1, .string a2, .string a3, .string b1, .string b2, .string a3, .string a1, .string b2, .string a3] → Calls Tryz.prog 16 #[.slice (some ⟨p, 0, none⟩) 4 4, .agg #[.string ⟨#[48]⟩, .string ⟨#[48]⟩, .string t]] w (Ret fun r w' => (∃ A n c, r = .tuple #[.slice A n c, .int .i64 0] ∧ Q w' (.slice A n c)) ∧ Below w.heap.size w w')) :
   Calls Tryz.prog 18 #[.agg #[.string a1, .string a2, .string a3], .agg #[.string b1, .string b2, .string b3]] w (Ret fun r w' => (∃ A n c, r = .tuple #[.slice A n c, .int .i64 0] ∧ Q w' (.slice A n c)) ∧ Below w.heap.size w w') := by
 have H1 := Lib.hid h1
 clear h1
 have H2 := Lib.hid h2
 clear h2
 have HM := Lib.hid hm
 clear hm
 have HS1 := Lib.hid hs1
 clear hs1
 have HS2 := Lib.hid hs2
 clear hs2
 have HS3 := Lib.hid hs3
 clear hs3
 have HT := Lib.hid ht
 clear ht
 have HP := Lib.hid hp
 clear hp
 go_enter Tryz.func18, Tryz.ntmps18
 go_wp2_with fail
 refine (H1.out _).mono ?_
 rintro e w1 ⟨z1, rfl, hx, g1_⟩
 obtain ⟨pA1, pa1, pB1, pb1, pA2, pa2, pB2, pb2, pA3, pa3, pB3, pb3, hE, ph1, ph2, ph3⟩ := hx.open
 subst hE
 have KA1 : Bk w1 (w.heap.size) [.string a1, .string a2, .string a3] := Bk.below bkk g1_
 have KB1 : Bk w1 (w.heap.size + 1) [.string b1, .string b2, .string b3] := Bk.below bkk g1_
 have BB1 := bn (w := w) bel g1_
 clear g1_ ph1 ph2 ph3
 have zb1 := KB1.lt
 have za1 : w.heap.size < w1.heap.size := by omega
 obtain ⟨n10, n11, n12, -⟩ := KB1.c3
 go_wp2_with fail
 refine (H2.out _).mono ?_
 rintro e w2 ⟨z2, rfl, hy, g2_⟩
 obtain ⟨qA1, qa1, qB1, qb1, qA2, qa2, qB2, qb2, qA3, qa3, qB3, qb3, hE, qh1, qh2, qh3⟩ := hy.open
 subst hE
 have KA2 : Bk w2 (w.heap.size) [.string a1, .string a2, .string a3] := Bk.below bkk g2_
 have KB2 : Bk w2 (w.heap.size + 1) [.string b1, .string b2, .string b3] := Bk.below bkk g2_
 have BB2 := bn (w := w) bel g2_
 have KX2 : Bk w2 (w1.heap.size) [.bool (decide (x.x.num < 0)), .slice pA1 (wds x.x.num.natAbs).length pa1, .slice pB1 (wds x.x.den).length pb1, .bool (decide (x.y.num < 0)), .slice pA2 (wds x.y.num.natAbs).length pa2, .slice pB2 (wds x.y.den).length pb2, .bool (decide (x.z.num < 0)), .slice pA3 (wds x.z.num.natAbs).length pa3, .slice pB3 (wds x.z.den).length pb3] := Bk.below (bk_at rfl) g2_
 replace hx := Vn.below (Vn.below hx bup) g2_
 clear g2_ qh1 qh2 qh3 KA1 KB1 BB1 n10 n11 n12
 have zb2 := KB2.lt
 have za2 : w.heap.size < w2.heap.size := by omega
 have zx2 := KX2.lt
 obtain ⟨⟨x0, x1, x2, x3, x4, x5, x6, x7, x8⟩, -⟩ := KX2.c9
 go_wp2_with fail
 refine (HM.out _ _ _ (Vn.below hy bup) (Vn.below hx bup)).mono ?_
 rintro e w3 ⟨z3, rfl, hd, g3_⟩
 obtain ⟨rA1, ra1, rB1, rb1, rA2, ra2, rB2, rb2, rA3, ra3, rB3, rb3, hE, rh1, rh2, rh3⟩ := hd.open
 subst hE
 have KA3 : Bk w3 (w.heap.size) [.string a1, .string a2, .string a3] := Bk.below bkk g3_
 have KB3 : Bk w3 (w.heap.size + 1) [.string b1, .string b2, .string b3] := Bk.below bkk g3_
 have BB3 := bn (w := w) bel g3_
 clear g3_ KA2 KB2 BB2 KX2 hx hy x0 x1 x2 x3 x4 x5 x6 x7 x8
 have zb3 := KB3.lt
 have za3 : w.heap.size < w3.heap.size := by omega
 go_wp2_with fail
 refine (HS1.out _ _ (Qn.below rh1 bup)).mono ?_
 rintro e w4 ⟨rfl, g4_⟩
 have KA4 : Bk w4 (w.heap.size) [.string a1, .string a2, .string a3] := Bk.below bkk g4_
 have KB4 : Bk w4 (w.heap.size + 1) [.string b1, .string b2, .string b3] := Bk.below bkk g4_
 have BB4 := bn (w := w) bel g4_
 have KD4 : Bk w4 (w3.heap.size) [.bool (decide (d.x.num < 0)), .slice rA1 (wds d.x.num.natAbs).length ra1, .slice rB1 (wds d.x.den).length rb1, .bool (decide (d.y.num < 0)), .slice rA2 (wds d.y.num.natAbs).length ra2, .slice rB2 (wds d.y.den).length rb2, .bool (decide (d.z.num < 0)), .slice rA3 (wds d.z.num.natAbs).length ra3, .slice rB3 (wds d.z.den).length rb3] := Bk.below (bk_at rfl) g4_
 replace rh1 := Qn.below (Qn.below rh1 bup) g4_
 replace rh2 := Qn.below (Qn.below rh2 bup) g4_
 replace rh3 := Qn.below (Qn.below rh3 bup) g4_
 clear g4_ KA3 KB3 BB3
 have zb4 := KB4.lt
 have za4 : w.heap.size < w4.heap.size := by omega
 obtain ⟨⟨y5_0, y5_1, y5_2, y5_3, y5_4, y5_5, y5_6, y5_7, y5_8⟩, -⟩ := KD4.c9
 have zd5 := KD4.lt
 go_wp2_with fail
 refine (HS2.out _ _ (Qn.below rh2 bup)).mono ?_
 rintro e w5 ⟨rfl, g5_⟩
 have KA5 : Bk w5 (w.heap.size) [.string a1, .string a2, .string a3] := Bk.below bkk g5_
 have KB5 : Bk w5 (w.heap.size + 1) [.string b1, .string b2, .string b3] := Bk.below bkk g5_
 have BB5 := bn (w := w) bel g5_
 have KD5 : Bk w5 (w3.heap.size) [.bool (decide (d.x.num < 0)), .slice rA1 (wds d.x.num.natAbs).length ra1, .slice rB1 (wds d.x.den).length rb1, .bool (decide (d.y.num < 0)), .slice rA2 (wds d.y.num.natAbs).length ra2, .slice rB2 (wds d.y.den).length rb2, .bool (decide (d.z.num < 0)), .slice rA3 (wds d.z.num.natAbs).length ra3, .slice rB3 (wds d.z.den).length rb3] := Bk.below bkk g5_
 replace rh1 := Qn.below (Qn.below rh1 bup) g5_
 replace rh2 := Qn.below (Qn.below rh2 bup) g5_
 replace rh3 := Qn.below (Qn.below rh3 bup) g5_
 clear g5_ KA4 KB4 BB4 KD4 y5_0 y5_1 y5_2 y5_3 y5_4 y5_5 y5_6 y5_7 y5_8
 have zb5 := KB5.lt
 have za5 : w.heap.size < w5.heap.size := by omega
 obtain ⟨⟨y6_0, y6_1, y6_2, y6_3, y6_4, y6_5, y6_6, y6_7, y6_8⟩, -⟩ := KD5.c9
 have zd6 := KD5.lt
 go_wp2_with fail
 refine (HS3.out _ _ (Qn.below rh3 bup)).mono ?_
 rintro e w6 ⟨rfl, g6_⟩
 have KA6 : Bk w6 (w.heap.size) [.string a1, .string a2, .string a3] := Bk.below bkk g6_
 have KB6 : Bk w6 (w.heap.size + 1) [.string b1, .string b2, .string b3] := Bk.below bkk g6_
 have BB6 := bn (w := w) bel g6_
 have KD6 : Bk w6 (w3.heap.size) [.bool (decide (d.x.num < 0)), .slice rA1 (wds d.x.num.natAbs).length ra1, .slice rB1 (wds d.x.den).length rb1, .bool (decide (d.y.num < 0)), .slice rA2 (wds d.y.num.natAbs).length ra2, .slice rB2 (wds d.y.den).length rb2, .bool (decide (d.z.num < 0)), .slice rA3 (wds d.z.num.natAbs).length ra3, .slice rB3 (wds d.z.den).length rb3] := Bk.below bkk g6_
 replace rh1 := Qn.below (Qn.below rh1 bup) g6_
 replace rh2 := Qn.below (Qn.below rh2 bup) g6_
 replace rh3 := Qn.below (Qn.below rh3 bup) g6_
 clear g6_ KA5 KB5 BB5 KD5 y6_0 y6_1 y6_2 y6_3 y6_4 y6_5 y6_6 y6_7 y6_8
 have zb6 := KB6.lt
 have za6 : w.heap.size < w6.heap.size := by omega
 obtain ⟨⟨y7_0, y7_1, y7_2, y7_3, y7_4, y7_5, y7_6, y7_7, y7_8⟩, -⟩ := KD6.c9
 have zd7 := KD6.lt
 obtain ⟨m0, m1, m2, -⟩ := KA6.c3
 obtain ⟨n0, n1, n2, -⟩ := KB6.c3
 go_wp2_with fail
 refine (HT.out _ _ (Qn.below rh3 bup)).mono ?_
 rintro e w7 ⟨rfl, g7_⟩
 have KS7 : Bk w7 (w6.heap.size) [.string a1, .string a2, .string a3, .string b1, .string a2, .string a3, .string b1, .string b2, .string a3, .string a1, .string b2, .string a3] := Bk.below (bk_at rfl) g7_
 have BB7 := bn (w := w) bel g7_
 clear g7_ KA6 KB6 BB6 KD6
 go_wp2_with fail
 refine (HP.out _ _ KS7).mono ?_
 rintro e w8 ⟨_, rfl, ⟨A8, n8, c8, rfl, hq⟩, g8_⟩
 have BB8 : Below w.heap.size w w8 := bn BB7 g8_
 have HQ := Lib.hid hq
 clear g8_ hq
 go_wp2
 go_ret2
 exact ⟨_, rfl, ⟨_, _, _, rfl, HQ.out⟩, BB8⟩
end Go.Proofs.YtbnbaokamccmjaaGreatDoor
