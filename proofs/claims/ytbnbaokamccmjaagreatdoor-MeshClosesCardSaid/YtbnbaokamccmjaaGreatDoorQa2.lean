/- rational: little, of. -/
import Derived.IntWalk
import Derived.Test.YtbnbaokamccmjaaGreatDoorQa1
set_option linter.unusedVariables false
set_option linter.unusedSimpArgs false
namespace Go.Proofs.YtbnbaokamccmjaaGreatDoor
open Go Go.RowKit

theorem pow9 : (10 : Nat) ^ 9 = 1000000000 := by decide
theorem pow63 : (2 : Nat) ^ 63 = 9223372036854775808 := by decide
theorem lt_of_len {n : Nat} (h : (Lib.decDigits n).length ≤ 9) : n < 1000000000 := by
  have h1 := natOf_lt (digs_decDigits n)
  rw [natOf_decDigits] at h1
  have h2 : (10 : Nat) ^ (Lib.decDigits n).length ≤ 10 ^ 9 := Nat.pow_le_pow_right (by omega) h
  rw [pow9] at h2
  omega
theorem parse_itoa (z : Int) (h : (Lib.itoa z).length ≤ 9) : Lib.parseIntB 64 (Lib.itoa z) = .ok z := by
  by_cases hz : z < 0
  · rw [itoa_neg hz] at h ⊢
    have hl : (Lib.decDigits z.natAbs).length ≤ 9 := by simp at h; omega
    have hb := lt_of_len hl
    have hp := parse_word (digs_decDigits z.natAbs) (decDigits_ne _) hl 64 (by omega)
    unfold Lib.parseIntB
    have e : (if ((45 : UInt8).toNat = 43 ∨ (45 : UInt8).toNat = 45) then Lib.decDigits z.natAbs else 45 :: Lib.decDigits z.natAbs) = Lib.decDigits z.natAbs := if_pos (.inr rfl)
    simp only [e, hp, natOf_decDigits, show (64 : Nat) - 1 = 63 from rfl, pow63]
    rw [if_neg (by intro h; exact h.1 rfl), if_neg (by intro h; omega), if_pos (by rfl)]
    congr 1
    omega
  · rw [itoa_nonneg (by omega)] at h ⊢
    have hb := lt_of_len h
    have hp := parse_word (digs_decDigits z.natAbs) (decDigits_ne _) h 64 (by omega)
    have hd := digs_decDigits z.natAbs
    have hn := natOf_decDigits z.natAbs
    cases hl : Lib.decDigits z.natAbs with
    | nil => exact absurd hl (decDigits_ne _)
    | cons c r =>
      rw [hl] at hp hd hn
      have hc := digs_mem hd (List.mem_cons_self)
      unfold Lib.parseIntB
      have e : (if (c.toNat = 43 ∨ c.toNat = 45) then r else c :: r) = c :: r := if_neg (by omega)
      have e2 : ¬ c.toNat = 45 := by omega
      simp only [e, hp, hn, show (64 : Nat) - 1 = 63 from rfl, pow63]
      rw [if_neg (by intro h; omega), if_neg (by intro h; exact e2 h.1), if_neg e2]
      congr 1
      omega
theorem parse_itx (z : Int) (h : (itx z).size ≤ 9) : Lib.parseIntB 64 (itx z).data.toList = .ok z := by
  rw [itx_toList]
  refine parse_itoa z ?_
  rw [← itx_toList, toList_length]
  exact h

/-- Is a number short? -/
def shortB (q : Rat) : Bool := decide ((itx q.num).size ≤ 9) && decide ((dec q.den).size ≤ 9)

set_option maxHeartbeats 1000000 in
theorem little_short (q : Rat) (h : shortB q = true) (w : World) :
    Calls Tryz.prog 198 #[FV q] w fun e w' => e = .returned (.tuple #[.int .i64 q.num, .int .i64 (q.den : Int), .bool true]) ∧ Below w.heap.size w w' := by
  unfold shortB at h
  rw [Bool.and_eq_true, decide_eq_true_eq, decide_eq_true_eq] at h
  obtain ⟨h1, h2⟩ := h
  have H1 := Lib.hid (fun w => parseInt_walk (itx q.num) (by omega) q.num (parse_itx _ h1) w)
  have H2 := Lib.hid (fun w => parseInt_walk (dec q.den) (by omega) (q.den : Int) (by have := parse_itx (q.den : Int) (by rw [itx_nat]; exact h2); rwa [itx_nat] at this) w)
  rw [FV_eq]
  generalize itx q.num = s at *
  generalize dec q.den = d at *
  generalize q.num = p at *
  generalize (q.den : Int) = r at *
  have k1 : ¬ (9 : Int) < (s.size : Int) := by omega
  have k2 : ¬ (9 : Int) < (d.size : Int) := by omega
  go_enter Tryz.func198, Tryz.ntmps198
  go_wp2_with fail
  refine (H1.out _).mono ?_
  rintro e w1 ⟨rfl, g1⟩
  have hz1 : w.heap.size < w1.heap.size := by have := g1.size; (try simp at this); omega
  have B1 : Below w.heap.size w w1 := bn (by repeat (first | exact br _ | assumption | refine ba ?_ | refine bd ?_ | refine below_drewN ?_ _ | refine bs ?_ (by (try simp) <;> omega))) g1
  have c1_0_0 : w1.cell? ⟨w.heap.size, 0, none⟩ = some (.string s) := bc g1 (by first | with_reducible assumption | go_simp)
  have f1_0_0 : w1.frozen? ⟨w.heap.size, 0, none⟩ = false := bfz g1 (by (try simp) <;> omega) (by first | with_reducible assumption | go_simp)
  have c1_0_1 : w1.cell? ⟨w.heap.size, 1, none⟩ = some (.string d) := bc g1 (by first | with_reducible assumption | go_simp)
  have f1_0_1 : w1.frozen? ⟨w.heap.size, 1, none⟩ = false := bfz g1 (by (try simp) <;> omega) (by first | with_reducible assumption | go_simp)
  clear g1
  go_wp2_with fail
  refine (H2.out _).mono ?_
  rintro e w2 ⟨rfl, g2⟩
  have B2 : Below w.heap.size w w2 := bn (by repeat (first | exact br _ | assumption | refine ba ?_ | refine bd ?_ | refine below_drewN ?_ _ | refine bs ?_ (by (try simp) <;> omega))) g2
  clear g2
  go_wp2
  go_ret3
  exact ⟨rfl, (by repeat (first | exact br _ | assumption | refine ba ?_ | refine bd ?_ | refine below_drewN ?_ _ | refine bs ?_ (by (try simp) <;> omega)))⟩
set_option maxHeartbeats 1000000 in
theorem little_long (q : Rat) (h : shortB q = false) (w : World) :
    Calls Tryz.prog 198 #[FV q] w fun e w' => e = .returned (.tuple #[.int .i64 0, .int .i64 0, .bool false]) ∧ Below w.heap.size w w' := by
  unfold shortB at h
  rw [FV_eq]
  generalize itx q.num = s at *
  generalize dec q.den = d at *
  by_cases k1 : (9 : Int) < (s.size : Int)
  · clear h
    go_enter Tryz.func198, Tryz.ntmps198
    go_wp2
    go_ret3
    exact ⟨rfl, (by repeat (first | exact br _ | assumption | refine ba ?_ | refine bd ?_ | refine below_drewN ?_ _ | refine bs ?_ (by (try simp) <;> omega)))⟩
  · have k2 : (9 : Int) < (d.size : Int) := by
      rcases Nat.lt_or_ge 9 d.size with h9 | h9
      · omega
      · rw [decide_eq_true (show s.size ≤ 9 by omega), decide_eq_true h9] at h
        cases h
    clear h
    go_enter Tryz.func198, Tryz.ntmps198
    go_wp2
    go_ret3
    exact ⟨rfl, (by repeat (first | exact br _ | assumption | refine ba ?_ | refine bd ?_ | refine below_drewN ?_ _ | refine bs ?_ (by (try simp) <;> omega)))⟩

theorem bis {W V : World} (g : Below W.heap.size W V) {b o : Nat} (h : (W.cell? ⟨b, o, none⟩).isSome = true) : (V.cell? ⟨b, o, none⟩).isSome = true := by
  obtain ⟨v, hv⟩ := Option.isSome_iff_exists.1 h
  rw [bc g hv]; rfl
theorem gcd_tmod (a b : Int) : Nat.gcd b.natAbs (a.tmod b).natAbs = Nat.gcd a.natAbs b.natAbs := by
  rw [Int.natAbs_tmod, Nat.gcd_comm b.natAbs, ← Nat.gcd_rec, Nat.gcd_comm]

set_option maxHeartbeats 2000000 in
theorem rof_walk (p q : Int) (hp1 : -2000000000000000000 ≤ p) (hp2 : p ≤ 2000000000000000000) (hq1 : 1 ≤ q) (hq2 : q ≤ 1000000000000000000) (w : World) (hB : Bw w) :
    Calls Tryz.prog 199 #[.int .i64 p, .int .i64 q] w fun e w' => e = .returned (FV (mkRat p q.toNat)) ∧ Below w.heap.size w w' := by
  go_enter Tryz.func199, Tryz.ntmps199
  go_wp2
  go_loopw [5, 6] (fun aa bb wr => ∃ (a b : Int) (n : Nat), aa = .int .i64 a ∧ bb = .int .i64 b ∧ Hid (Nat.gcd a.natAbs b.natAbs = Nat.gcd p.natAbs q.natAbs) ∧ a.natAbs ≤ 2000000000000000000 ∧ b.natAbs ≤ 2000000000000000000 ∧ wr = (w.alloc (.cells #[.string ⟨#[]⟩, .string ⟨#[]⟩] 130)).drewN n) (fun _ bb _ => (intOf bb).natAbs)
  case atStart => exact ⟨p, q, 0, rfl, rfl, Lib.hid rfl, by omega, by omega, rfl⟩
  case round =>
    obtain ⟨a, b, n, rfl, rfl, hg, ha, hb, rfl⟩ := hrel
    by_cases hb0 : b = 0
    · subst hb0
      have ha1 : -2000000000000000000 ≤ a := by omega
      have ha2 : a ≤ 2000000000000000000 := by omega
      clear ha hb
      have hg' := hg.out
      rw [show (0 : Int).natAbs = 0 from rfl, Nat.gcd_zero_right] at hg'
      have hFV := FV_mk p q.toNat (by omega)
      obtain ⟨R, hR⟩ : ∃ R, R = FV (mkRat p q.toNat) := ⟨_, rfl⟩
      rw [← hR, show q.toNat = q.natAbs by omega, ← hg'] at hFV
      have hgp : 0 < a.natAbs := by
        rw [hg']; exact Nat.gcd_pos_of_pos_right _ (by omega)
      have hm : max a (-a) = (a.natAbs : Int) := by omega
      have d1 : (a.natAbs : Int) ∣ p := Int.ofNat_dvd_left.2 (by rw [hg']; exact Nat.gcd_dvd_left _ _)
      have d2 : a.natAbs ∣ q.natAbs := by rw [hg']; exact Nat.gcd_dvd_right _ _
      have t1 : p.tdiv (a.natAbs : Int) = p / (a.natAbs : Int) := Int.tdiv_eq_ediv_of_dvd d1
      have t2 : q.tdiv (a.natAbs : Int) = ((q.natAbs / a.natAbs : Nat) : Int) := by
        rw [Int.natCast_ediv, show (q.natAbs : Int) = q by omega]
        exact Int.tdiv_eq_ediv_of_nonneg (by omega)
      have b1 : (p / (a.natAbs : Int)).natAbs ≤ 2000000000000000000 := Nat.le_trans (Int.natAbs_ediv_le_natAbs _ _) (by omega)
      have b2 : q.natAbs / a.natAbs ≤ 1000000000000000000 := Nat.le_trans (Nat.div_le_self _ _) (by omega)
      rw [← itx_nat] at hFV
      generalize p / (a.natAbs : Int) = u at *
      generalize q.natAbs / a.natAbs = v at *
      generalize a.natAbs = gg at *
      clear hg hg' d1 d2
      have hne : ((gg : Int) == 0) = false := beq_eq_false_iff_ne.2 (by omega)
      have hne2 : ¬ gg = 0 := by omega
      have hw1 : IntKind.i64.wrap u = u := IntWalk.i64_in _ (by omega)
      have hw2 : IntKind.i64.wrap (v : Int) = v := IntWalk.i64_in _ (by omega)
      have HF1 := Lib.hid (fun w hB => formatInt_walk u (by omega) (by omega) w hB)
      have HF2 := Lib.hid (fun w hB => formatInt_walk (v : Int) (by omega) (by omega) w hB)
      have e1 : (⟨(Lib.itoa u).toArray⟩ : ByteArray) = itx u := rfl
      have e2 : (⟨(Lib.itoa (v : Int)).toArray⟩ : ByteArray) = itx (v : Int) := rfl
      rw [e1] at HF1
      rw [e2] at HF2
      generalize itx u = s1 at *
      generalize itx (v : Int) = s2 at *
      clear b1 b2 e1 e2
      have HI := Lib.hid (hR.symm.trans hFV)
      clear hFV hR
      go_wp2
      go_region_held3 (fun w' => Below w.heap.size w w')
        (first | (exact bn (by repeat (first | exact br _ | assumption | refine ba ?_ | refine bd ?_ | refine below_drewN ?_ _ | refine bs ?_ (by (try simp) <;> omega))) g1) | exact (by repeat (first | exact br _ | assumption | refine ba ?_ | refine bd ?_ | refine below_drewN ?_ _ | refine bs ?_ (by (try simp) <;> omega))) | exact below_drewN (ba (br w)) _ | exact bd (below_drewN (ba (br w)) _))
        (first | (go_at_call_of 221 (Value.int IntKind.i64 u); refine (HF1.out _ (hB.below (by assumption))).mono ?_; rintro e w1 ⟨rfl, g1⟩; have hz1 : w.heap.size < w1.heap.size := (by have := g1.size; (try simp at this); omega); have c1_0_0 : w1.cell? ⟨w.heap.size, 0, none⟩ = some (.string ⟨#[]⟩) := bc g1 (by first | with_reducible assumption | go_simp); have f1_0_0 : w1.frozen? ⟨w.heap.size, 0, none⟩ = false := bfz g1 (by (try simp) <;> omega) (by first | with_reducible assumption | go_simp); have c1_0_1 : w1.cell? ⟨w.heap.size, 1, none⟩ = some (.string ⟨#[]⟩) := bc g1 (by first | with_reducible assumption | go_simp); have f1_0_1 : w1.frozen? ⟨w.heap.size, 1, none⟩ = false := bfz g1 (by (try simp) <;> omega) (by first | with_reducible assumption | go_simp)) | (go_at_call_of 221 (Value.int IntKind.i64 (v : Int)); refine (HF2.out _ (hB.below (by assumption))).mono ?_; rintro e w1 ⟨rfl, g1⟩; have hz1 : w.heap.size < w1.heap.size := (by have := g1.size; (try simp at this); omega); have c1_0_0 : w1.cell? ⟨w.heap.size, 0, none⟩ = some (.string ⟨#[]⟩) := bc g1 (by first | with_reducible assumption | go_simp); have f1_0_0 : w1.frozen? ⟨w.heap.size, 0, none⟩ = false := bfz g1 (by (try simp) <;> omega) (by first | with_reducible assumption | go_simp); have c1_0_1 : w1.cell? ⟨w.heap.size, 1, none⟩ = some (.string ⟨#[]⟩) := bc g1 (by first | with_reducible assumption | go_simp); have f1_0_1 : w1.frozen? ⟨w.heap.size, 1, none⟩ = false := bfz g1 (by (try simp) <;> omega) (by first | with_reducible assumption | go_simp)))
      all_goals
        have hI := HI.out
        go_wp2
        refine bodyPost_ret (v := .agg #[.string s1, .string s2]) (by simp [results, Tryz.results199, go_sem, *]) rfl ⟨(by first | rfl | rw [hI]), (by repeat (first | exact br _ | assumption | refine ba ?_ | refine bd ?_ | refine below_drewN ?_ _ | refine bs ?_ (by (try simp) <;> omega)))⟩
    · have hz : Hid (Nat.gcd b.natAbs (a.tmod b).natAbs = Nat.gcd p.natAbs q.natAbs) := Lib.hid ((gcd_tmod a b).trans hg.out)
      have hlt : (a.tmod b).natAbs < b.natAbs := by rw [Int.natAbs_tmod]; exact Nat.mod_lt _ (by omega)
      have hbe : (b == 0) = false := beq_eq_false_iff_ne.2 hb0
      have HB := Lib.hid hb
      have HL := Lib.hid hlt
      clear hlt hg ha hb
      go_wp2
      go_quiet (fail)
      go_wp2
      go_roundw
      case rel => exact ⟨b, a.tmod b, _, rfl, rfl, hz, HB.out, by have := HB.out; have := HL.out; omega, by simp only [World.drewN, Nat.add_assoc]; rfl⟩
      case measure => simp only [intOf]; exact HL.out
end Go.Proofs.YtbnbaokamccmjaaGreatDoor
