/- garboardref12: vectors, fan, Fan, turned. -/
import Derived.Test.YtbnbaokamccmjaaGreatDoorDG
import Derived.Test.YtbnbaokamccmjaaGreatDoorDD
set_option linter.unusedVariables false
set_option linter.unusedSimpArgs false
namespace Go.Proofs.YtbnbaokamccmjaaGreatDoor
open Go Go.RowKit
set_option maxHeartbeats 4000000 in
set_option maxRecDepth 100000 in
theorem rturned_walk (v : Value) (l : List TV) (w : World) (hv : Ts w v l) (hm : l.length ≤ 1000000) :
   Calls Tryz.prog 57 #[v] w (Ret fun u w' => w'.ownsRow w.heap.size 43 9 u l.length (tcs (l.map Tr.turn)) ∧ Below w.heap.size w w') := by
 obtain ⟨A, cap, rfl, hn, hc, hcell⟩ := hv.open
 have HCL := Lib.hid hcell
 obtain ⟨n, hlen⟩ : ∃ n, n = l.length := ⟨_, rfl⟩
 have HL := Lib.hid hlen
 have HST0 := Lib.hid (fun (k : Nat) (hk : k < n) => turn_take (show k < l.length by rw [← HL.out]; exact hk))
 rw [← hlen] at hn hm ⊢
 clear hcell hv hlen
 go_enter Tryz.func57, Tryz.ntmps57
 go_wp2
 go_loopw [3, 4] (fun ov ii wr => ∃ k : Nat, k ≤ n ∧ ii = .int .i64 k ∧ wr.ownsRow w.heap.size 43 9 ov k (tcs ((l.take k).map Tr.turn)) ∧ Below w.heap.size w wr) (fun _ ii _ => n - (intOf ii).toNat)
 case atStart => exact ⟨0, by omega, rfl, World.ownsRow_nil _ _ _ _, Below.refl _ _⟩
 case round =>
   obtain ⟨k, hk, rfl, hown, hb⟩ := hrel
   by_cases hlt : k < n
   · obtain ⟨t, hg, hst⟩ := HST0.out k hlt
     obtain ⟨b, off, rfl, hcl⟩ := HCL.out (by rw [← HL.out]; omega)
     have HC := Lib.hid (ts_nine (hcl _ _ hg))
     have HST := Lib.hid hst
     obtain ⟨d0, d1, d2, d3, d4, d5, d6, d7, d8⟩ := ts_nine (fun i u hu => cell_below hb (hcl _ _ hg i u hu))
     clear hst hg hcl
     have hk0 : (0 : Int) ≤ (k : Int) := by omega
     have hkn : (k : Int) < (n : Int) := by omega
     have HTS : Hid (TV.cells t.turn = [.string t.a.x, .string t.a.y, .string t.a.z, .string t.c.x, .string t.c.y, .string t.c.z, .string t.b.x, .string t.b.y, .string t.b.z]) := Lib.hid rfl
     generalize t.a.x = x0 at *
     generalize t.a.y = y0 at *
     generalize t.a.z = z0 at *
     generalize t.b.x = x1 at *
     generalize t.b.y = y1 at *
     generalize t.b.z = z1 at *
     generalize t.c.x = x2 at *
     generalize t.c.y = y2 at *
     generalize t.c.z = z2 at *
     have hsz := hb.size
     go_wp2_with fail
     go_region_held3 (fun w' => w'.cell? ⟨b, off + k * 9, none⟩ = some (.string x0) ∧ w'.cell? ⟨b, off + k * 9 + 1, none⟩ = some (.string y0) ∧ w'.cell? ⟨b, off + k * 9 + 2, none⟩ = some (.string z0) ∧ w'.cell? ⟨b, off + k * 9 + 3, none⟩ = some (.string x1) ∧ w'.cell? ⟨b, off + k * 9 + 4, none⟩ = some (.string y1) ∧ w'.cell? ⟨b, off + k * 9 + 5, none⟩ = some (.string z1) ∧ w'.cell? ⟨b, off + k * 9 + 6, none⟩ = some (.string x2) ∧ w'.cell? ⟨b, off + k * 9 + 7, none⟩ = some (.string y2) ∧ w'.cell? ⟨b, off + k * 9 + 8, none⟩ = some (.string z2) ∧ Below w.heap.size w w')
       ((go_split_ands; exact ⟨cell_below bel HC.out.1, cell_below bel HC.out.2.1, cell_below bel HC.out.2.2.1, cell_below bel HC.out.2.2.2.1, cell_below bel HC.out.2.2.2.2.1, cell_below bel HC.out.2.2.2.2.2.1, cell_below bel HC.out.2.2.2.2.2.2.1, cell_below bel HC.out.2.2.2.2.2.2.2.1, cell_below bel HC.out.2.2.2.2.2.2.2.2, bel⟩))
       ((refine step_append_box (w0 := w) w.heap.size (by rfl) _ _ 28 43 _ 9 144 (by rfl) Tryz.underlying28 info_tri rfl (by omega) (by omega) _ k 1 (tcs ((l.take k).map Tr.turn)) [.string x0, .string y0, .string z0, .string x2, .string y2, .string z2, .string x1, .string y1, .string z1] (by rfl) wr.heap.size (by rfl) (by omega) (by rfl) (by simp [Value.oneCell']) (by first | exact (hown.alloc _).drew | exact hown.drew.alloc _) (by first | exact box_drew (box_at _ _ rfl) | exact box_at _ _ rfl) bel (by (try simp) <;> omega) (by omega) ?_; intro v1 w1 hown1 hb1 hg1))
     have hown2 : w1.ownsRow w.heap.size 43 9 v1 (k + 1) (tcs ((l.take (k + 1)).map Tr.turn)) := by
       rw [HST.out, tcs_append, tcs_one, HTS.out]
       exact hown1
     clear hown1 hown
     go_wp2
     go_roundw
     case rel => exact ⟨k + 1, by omega, by go_num, hown2, hb1⟩
     case measure => simp [intOf]; omega
   · obtain rfl : k = n := by omega
     have hown2 : wr.ownsRow w.heap.size 43 9 u3 k (tcs (l.map Tr.turn)) := by
       have e : l.take k = l := by rw [HL.out]; exact List.take_length
       rw [e] at hown
       exact hown
     clear hown
     go_wp2
     go_ret
     exact ⟨_, rfl, hown2, hb⟩
end Go.Proofs.YtbnbaokamccmjaaGreatDoor
