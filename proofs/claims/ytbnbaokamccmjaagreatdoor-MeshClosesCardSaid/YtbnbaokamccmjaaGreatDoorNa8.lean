/- natural: gcd: for every two numbers. -/
import Derived.Test.YtbnbaokamccmjaaGreatDoorNa7
import Derived.Deep.LoopGhost
set_option linter.unusedVariables false
set_option linter.unusedSimpArgs false
namespace Go.Proofs.YtbnbaokamccmjaaGreatDoor
open Go Go.RowKit
set_option maxRecDepth 100000 in
set_option maxHeartbeats 2000000 in
theorem gcd_walk (v u : Value) (n m : Nat) (w : World) (h : Num w v n) (g : Num w u m) (hf : (wds n).length ≤ 900000000) (gf : (wds m).length ≤ 900000000) :
    Calls Tryz.prog 190 #[v, u] w (Ret fun v1 w' => Num w' v1 (Nat.gcd n m) ∧ Below w.heap.size w w') := by
  go_enter Tryz.func190, Tryz.ntmps190
  go_wp2
  go_loopg [0, 1] m (fun k s0 s1 wr => ∃ a b : Nat, k = b ∧ Hid (Nat.gcd a b = Nat.gcd n m) ∧ Num wr s0 a ∧ Num wr s1 b ∧ (wds a).length ≤ 900000000 ∧ (wds b).length ≤ 900000000 ∧ Below w.heap.size w wr)
  case atStart => exact ⟨n, m, rfl, rfl, h, g, hf, gf, Below.refl _ _⟩
  case round =>
    clear h g hf gf
    obtain ⟨a, b, rfl, hg, ha, hb, la, lb, hbel⟩ := hrel
    by_cases h0 : gk = 0
    · subst h0
      obtain ⟨B, cap', rfl, _, _, _⟩ := hb.open
      rw [wds_zero] at *
      go_wp2
      go_ret
      have := hg.out
      rw [Nat.gcd_zero_right] at this
      subst this
      exact ⟨_, rfl, ha, hbel⟩
    · have hb0 : 0 < (wds gk).length := wds_length_pos.2 (by omega)
      obtain ⟨B, cap', hBe, _, _, _⟩ := hb.open
      subst hBe
      have HB0 := Lib.hid h0
      clear h0
      go_wp2_with fail
      refine (small_walk _ a wr ha).mono ?_
      rintro e w1 ⟨rfl, hb1⟩
      have hB1 := below_then hbel hbel.size hb1
      go_wp2_with fail
      refine (small_walk _ gk w1 (hb.below hb1)).mono ?_
      rintro e w2 ⟨rfl, hb2⟩
      have hB2 := below_then hB1 hB1.size hb2
      have ha2 := (ha.below hb1).below hb2
      have hb2' := (hb.below hb1).below hb2
      clear hb1 hb2 hB1 ha hb hbel
      by_cases hs : a < wB * wB ∧ gk < wB * wB
      · have ea : smallOf a = a := if_pos hs.1
        have eb : smallOf gk = gk := if_pos hs.2
        rw [ea, eb, decide_eq_true hs.1, decide_eq_true hs.2]
        clear ea eb
        have HS := Lib.hid hs
        clear hs
        go_wp2
        go_loopw [5, 7] (fun xx yy wx => ∃ x y : Nat, xx = .int .u64 x ∧ yy = .int .u64 y ∧ Hid (Nat.gcd x y = Nat.gcd n m) ∧ Hid (x < wB * wB ∧ y < wB * wB) ∧ Below w.heap.size w wx) (fun _ yy _ => (intOf yy).toNat)
        case atStart => exact ⟨a, gk, rfl, rfl, hg, HS, hB2⟩
        case round =>
          clear hg HS HB0 hb0 la lb ha2 hb2' hB2
          obtain ⟨x, y, rfl, rfl, hg, hs, hbel⟩ := hrel
          have bx : (x : Int) ≤ 999999999999999999 := by have := hs.out.1; rw [wB_eq] at this; omega
          have by' : (y : Int) ≤ 999999999999999999 := by have := hs.out.2; rw [wB_eq] at this; omega
          by_cases hy : y = 0
          · subst hy
            go_wp2_with fail
            refine (of_walk x hs.out.1 _).mono ?_
            rintro e w3 ⟨v3, rfl, g1, g2⟩
            go_wp2
            go_ret
            have := hg.out
            rw [Nat.gcd_zero_right] at this
            subst this
            exact ⟨_, rfl, g1.num, below_then hbel hbel.size g2⟩
          · have hy1 : (1 : Int) ≤ y := by omega
            have hyy : ¬ (y : Int) = 0 := by omega
            obtain ⟨z, hz⟩ : ∃ z, z = x % y := ⟨_, rfl⟩
            have sz : (x : Int).tmod (y : Int) = (z : Int) := by rw [Int.tmod_eq_emod_of_nonneg (Int.natCast_nonneg _), hz, Int.natCast_emod]
            have sz' : (x : Int) % (y : Int) = (z : Int) := by rw [hz, Int.natCast_emod]
            have hzy : z < y := by rw [hz]; exact Nat.mod_lt _ (by omega)
            have hgz : Hid (Nat.gcd y z = Nat.gcd n m) := by
              show Nat.gcd y z = Nat.gcd n m
              rw [hz, Nat.gcd_comm y, ← Nat.gcd_rec, Nat.gcd_comm]; exact hg.out
            have HZ := Lib.hid hz
            clear hz
            go_wp2
            go_quiet (fail)
            go_wp2
            go_roundw
            case rel => exact ⟨y, z, rfl, rfl, hgz, ⟨hs.out.2, Nat.lt_trans hzy hs.out.2⟩, below_drewN hbel _⟩
            case measure => simp [intOf]; omega
      · generalize smallOf a = sa
        generalize smallOf gk = sb
        have hdv := divide_walk u0 (.slice B (wds gk).length cap') a gk (by have := HB0.out; omega) w2 ha2 hb2' la
        have hgz : Hid (Nat.gcd gk (a % gk) = Nat.gcd n m) := by
          show Nat.gcd gk (a % gk) = Nat.gcd n m
          rw [Nat.gcd_comm gk, ← Nat.gcd_rec, Nat.gcd_comm]; exact hg.out
        have hlt : a % gk < gk := Nat.mod_lt _ (by have := HB0.out; omega)
        have hlen : (wds (a % gk)).length ≤ 900000000 := Nat.le_trans (wds_mono_length (Nat.le_of_lt hlt)) lb
        have HLT := Lib.hid hlt
        have HDV := Lib.hid hdv
        clear hlt hdv
        by_cases h1 : a < wB * wB
        · have h2 : ¬ gk < wB * wB := fun h2 => hs ⟨h1, h2⟩
          rw [decide_eq_true h1, decide_eq_false h2]
          clear hs h1 h2
          go_wp2_with fail
          refine HDV.out.mono ?_
          rintro e w3 ⟨v1, v2, rfl, r1, r2, r3⟩
          go_wp2
          go_roundg (a % gk)
          case measure => exact HLT.out
          case rel => exact ⟨gk, a % gk, rfl, hgz, hb2'.below r3, r2, lb, hlen, below_then hB2 hB2.size r3⟩
        · rw [decide_eq_false h1]
          generalize decide (gk < wB * wB) = db
          clear hs h1
          go_wp2_with fail
          refine HDV.out.mono ?_
          rintro e w3 ⟨v1, v2, rfl, r1, r2, r3⟩
          go_wp2
          go_roundg (a % gk)
          case measure => exact HLT.out
          case rel => exact ⟨gk, a % gk, rfl, hgz, hb2'.below r3, r2, lb, hlen, below_then hB2 hB2.size r3⟩
end Go.Proofs.YtbnbaokamccmjaaGreatDoor
