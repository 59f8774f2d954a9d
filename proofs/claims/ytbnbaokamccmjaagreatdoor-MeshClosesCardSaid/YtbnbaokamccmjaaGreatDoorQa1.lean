/- rational: divisor, lowest, opposite, inverse, sign, text. -/
import Derived.Test.YtbnbaokamccmjaaGreatDoorIa7
set_option linter.unusedVariables false
set_option linter.unusedSimpArgs false
namespace Go.Proofs.YtbnbaokamccmjaaGreatDoor
open Go Go.RowKit

/-- A rational number as the program keeps it. -/
def FV (q : Rat) : Value := .agg #[.string (itx q.num), .string (dec q.den)]
theorem FV_eq (q : Rat) : FV q = .agg #[.string (itx q.num), .string (dec q.den)] := rfl
theorem FV_shape (q : Rat) : ∃ c d, FV q = .agg #[.string c, .string d] := ⟨_, _, rfl⟩

set_option maxHeartbeats 1000000 in
theorem divisor_walk (p : Int) (d : Nat) (hp : dg p.natAbs ≤ 50000000) (hd : dg d ≤ 50000000) (w : World) (hB : Bw w) :
    Calls Tryz.prog 150 #[.string (itx p), .string (dec d)] w fun e w' => e = .returned (.string (dec (Nat.gcd p.natAbs d))) ∧ Below w.heap.size w w' := by
  have hg : (wds (Nat.gcd p.natAbs d)).length ≤ 100000000 := by
    have h1 := wds_le_dg (Nat.gcd p.natAbs d)
    by_cases h0 : p.natAbs = 0
    · have := wds_le_dg d; rw [h0, Nat.gcd_zero_left]; omega
    · have := dg_mono (Nat.gcd_le_left d (Nat.pos_of_ne_zero h0))
      omega
  have H1 := Lib.hid (fun w => iAbs_walk p hp w)
  have H2 := Lib.hid (fun w hB => natGCD_walk p.natAbs d (by have := dg_def p.natAbs; omega) (by have := dg_def d; omega) hg w hB)
  clear hp hd hg
  generalize dec (Nat.gcd p.natAbs d) = g at *
  generalize itx p = s at *
  generalize dec p.natAbs = a at *
  generalize dec d = t at *
  go_enter Tryz.func150, Tryz.ntmps150
  go_wp2_with fail
  refine (H1.out _).mono ?_
  rintro e w1 ⟨rfl, g1⟩
  have B1 : Below w.heap.size w w1 := bn (by repeat (first | exact br _ | assumption | refine ba ?_ | refine bd ?_ | refine below_drewN ?_ _ | refine bs ?_ (by (try simp) <;> omega))) g1
  clear g1
  go_wp2_with fail
  refine (H2.out _ (hB.below (by repeat (first | exact br _ | assumption | refine ba ?_ | refine bd ?_ | refine below_drewN ?_ _ | refine bs ?_ (by (try simp) <;> omega))))).mono ?_
  rintro e w2 ⟨rfl, g2⟩
  have B2 : Below w.heap.size w w2 := bn (by repeat (first | exact br _ | assumption | refine ba ?_ | refine bd ?_ | refine below_drewN ?_ _ | refine bs ?_ (by (try simp) <;> omega))) g2
  clear g2
  go_wp2
  go_ret
  exact ⟨rfl, (by repeat (first | exact br _ | assumption | refine ba ?_ | refine bd ?_ | refine below_drewN ?_ _ | refine bs ?_ (by (try simp) <;> omega)))⟩

theorem FV_mk (p : Int) (d : Nat) (h0 : d ≠ 0) : FV (mkRat p d) = .agg #[.string (itx (p / (Nat.gcd p.natAbs d : Int))), .string (dec (d / Nat.gcd p.natAbs d))] := by
  rw [FV_eq, Rat.num_mkRat, Rat.den_mkRat, Nat.gcd_comm d]
  simp [h0]
theorem dec_ne1 (n : Nat) : ((dec n).toList == [49]) = decide (n = 1) := by rw [ByteArray.toList_eq, dec_toList, decDigits_eq_one]

set_option maxHeartbeats 1000000 in
theorem lowest_walk (p : Int) (d : Nat) (h0 : d ≠ 0) (hp : dg p.natAbs ≤ 50000000) (hd : dg d ≤ 50000000) (w : World) (hB : Bw w) :
    Calls Tryz.prog 201 #[.string (itx p), .string (dec d)] w fun e w' => e = .returned (FV (mkRat p d)) ∧ Below w.heap.size w w' := by
  rw [FV_mk p d h0]
  have hgp : 0 < Nat.gcd p.natAbs d := Nat.gcd_pos_of_pos_right _ (by omega)
  have hgd : Nat.gcd p.natAbs d ≤ d := Nat.gcd_le_right _ (by omega)
  have hgg := Nat.le_trans (dg_mono hgd) hd
  have H1 := Lib.hid (fun w hB => divisor_walk p d hp hd w hB)
  have H2 := Lib.hid (fun w hB => iDivMod_walk p (Nat.gcd p.natAbs d : Int) (by omega) hp (by rw [Int.natAbs_natCast]; exact hgg) w hB)
  rw [itx_nat] at H2
  have H3 := Lib.hid (fun w hB => natDivMod_walk d (Nat.gcd p.natAbs d) hgp (by have := dg_def d; omega) (by have := dg_def (Nat.gcd p.natAbs d); omega) (by have := wds_le_dg (d / Nat.gcd p.natAbs d); have := dg_mono (Nat.div_le_self d (Nat.gcd p.natAbs d)); omega) (by have := wds_le_dg (d % Nat.gcd p.natAbs d); have := dg_mono (Nat.le_of_lt (Nat.mod_lt d hgp)); omega) w hB)
  have HQ := dec_ne1 (Nat.gcd p.natAbs d)
  by_cases hg1 : Nat.gcd p.natAbs d = 1
  · rw [hg1] at HQ H1
    rw [hg1, Nat.div_one, show ((1 : Nat) : Int) = 1 from rfl, Int.ediv_one]
    rw [decide_eq_true rfl] at HQ
    clear H2 H3 hgp hgd hgg hp hd hg1
    generalize dec 1 = g at *
    generalize itx p = s at *
    generalize dec d = t at *
    go_enter Tryz.func201, Tryz.ntmps201
    go_wp2_with fail
    refine (H1.out _ (hB.below (by repeat (first | exact br _ | assumption | refine ba ?_ | refine bd ?_ | refine below_drewN ?_ _ | refine bs ?_ (by (try simp) <;> omega))))).mono ?_
    rintro e w1 ⟨rfl, g1⟩
    have hz1 : w.heap.size < w1.heap.size := by have := g1.size; (try simp at this); omega
    have B1 : Below w.heap.size w w1 := bn (by repeat (first | exact br _ | assumption | refine ba ?_ | refine bd ?_ | refine below_drewN ?_ _ | refine bs ?_ (by (try simp) <;> omega))) g1
    have c1_0_0 : w1.cell? ⟨w.heap.size, 0, none⟩ = some (.string ⟨#[]⟩) := bc g1 (by first | with_reducible assumption | go_simp)
    have f1_0_0 : w1.frozen? ⟨w.heap.size, 0, none⟩ = false := bfz g1 (by (try simp) <;> omega) (by first | with_reducible assumption | go_simp)
    have c1_0_1 : w1.cell? ⟨w.heap.size, 1, none⟩ = some (.string ⟨#[]⟩) := bc g1 (by first | with_reducible assumption | go_simp)
    have f1_0_1 : w1.frozen? ⟨w.heap.size, 1, none⟩ = false := bfz g1 (by (try simp) <;> omega) (by first | with_reducible assumption | go_simp)
    clear g1
    go_wp2
    refine bodyPost_ret (v := .agg #[.string s, .string t]) (by simp [results, Tryz.results201, go_sem, *]) rfl ⟨(by first | rfl | rw [hI]), (by repeat (first | exact br _ | assumption | refine ba ?_ | refine bd ?_ | refine below_drewN ?_ _ | refine bs ?_ (by (try simp) <;> omega)))⟩
  · rw [decide_eq_false hg1] at HQ
    clear hgp hgd hgg hp hd hg1
    generalize dec (Nat.gcd p.natAbs d) = g at *
    generalize itx p = s at *
    generalize dec d = t at *
    generalize itx (p / (Nat.gcd p.natAbs d : Int)) = s1 at *
    generalize itx (p % (Nat.gcd p.natAbs d : Int)) = s2 at *
    generalize dec (d / Nat.gcd p.natAbs d) = t1 at *
    generalize dec (d % Nat.gcd p.natAbs d) = t2 at *
    go_enter Tryz.func201, Tryz.ntmps201
    go_wp2_with fail
    refine (H1.out _ (hB.below (by repeat (first | exact br _ | assumption | refine ba ?_ | refine bd ?_ | refine below_drewN ?_ _ | refine bs ?_ (by (try simp) <;> omega))))).mono ?_
    rintro e w1 ⟨rfl, g1⟩
    have hz1 : w.heap.size < w1.heap.size := by have := g1.size; (try simp at this); omega
    have B1 : Below w.heap.size w w1 := bn (by repeat (first | exact br _ | assumption | refine ba ?_ | refine bd ?_ | refine below_drewN ?_ _ | refine bs ?_ (by (try simp) <;> omega))) g1
    have c1_0_0 : w1.cell? ⟨w.heap.size, 0, none⟩ = some (.string ⟨#[]⟩) := bc g1 (by first | with_reducible assumption | go_simp)
    have f1_0_0 : w1.frozen? ⟨w.heap.size, 0, none⟩ = false := bfz g1 (by (try simp) <;> omega) (by first | with_reducible assumption | go_simp)
    have c1_0_1 : w1.cell? ⟨w.heap.size, 1, none⟩ = some (.string ⟨#[]⟩) := bc g1 (by first | with_reducible assumption | go_simp)
    have f1_0_1 : w1.frozen? ⟨w.heap.size, 1, none⟩ = false := bfz g1 (by (try simp) <;> omega) (by first | with_reducible assumption | go_simp)
    clear g1
    go_wp2_with fail
    refine (H2.out _ (hB.below (by repeat (first | exact br _ | assumption | refine ba ?_ | refine bd ?_ | refine below_drewN ?_ _ | refine bs ?_ (by (try simp) <;> omega))))).mono ?_
    rintro e w2 ⟨rfl, g2⟩
    have hz2 : w.heap.size < w2.heap.size := by have := g2.size; (try simp at this); omega
    have B2 : Below w.heap.size w w2 := bn (by repeat (first | exact br _ | assumption | refine ba ?_ | refine bd ?_ | refine below_drewN ?_ _ | refine bs ?_ (by (try simp) <;> omega))) g2
    have c2_0_0 : w2.cell? ⟨w.heap.size, 0, none⟩ = some (.string ⟨#[]⟩) := bc g2 (by first | with_reducible assumption | go_simp)
    have f2_0_0 : w2.frozen? ⟨w.heap.size, 0, none⟩ = false := bfz g2 (by (try simp) <;> omega) (by first | with_reducible assumption | go_simp)
    have c2_0_1 : w2.cell? ⟨w.heap.size, 1, none⟩ = some (.string ⟨#[]⟩) := bc g2 (by first | with_reducible assumption | go_simp)
    have f2_0_1 : w2.frozen? ⟨w.heap.size, 1, none⟩ = false := bfz g2 (by (try simp) <;> omega) (by first | with_reducible assumption | go_simp)
    clear g2
    go_wp2_with fail
    refine (H3.out _ (hB.below (by repeat (first | exact br _ | assumption | refine ba ?_ | refine bd ?_ | refine below_drewN ?_ _ | refine bs ?_ (by (try simp) <;> omega))))).mono ?_
    rintro e w3 ⟨rfl, g3⟩
    have hz3 : w.heap.size < w3.heap.size := by have := g3.size; (try simp at this); omega
    have B3 : Below w.heap.size w w3 := bn (by repeat (first | exact br _ | assumption | refine ba ?_ | refine bd ?_ | refine below_drewN ?_ _ | refine bs ?_ (by (try simp) <;> omega))) g3
    have c3_0_0 : w3.cell? ⟨w.heap.size, 0, none⟩ = some (.string ⟨#[]⟩) := bc g3 (by first | with_reducible assumption | go_simp)
    have f3_0_0 : w3.frozen? ⟨w.heap.size, 0, none⟩ = false := bfz g3 (by (try simp) <;> omega) (by first | with_reducible assumption | go_simp)
    have c3_0_1 : w3.cell? ⟨w.heap.size, 1, none⟩ = some (.string ⟨#[]⟩) := bc g3 (by first | with_reducible assumption | go_simp)
    have f3_0_1 : w3.frozen? ⟨w.heap.size, 1, none⟩ = false := bfz g3 (by (try simp) <;> omega) (by first | with_reducible assumption | go_simp)
    clear g3
    go_wp2
    refine bodyPost_ret (v := .agg #[.string s1, .string t1]) (by simp [results, Tryz.results201, go_sem, *]) rfl ⟨(by first | rfl | rw [hI]), (by repeat (first | exact br _ | assumption | refine ba ?_ | refine bd ?_ | refine below_drewN ?_ _ | refine bs ?_ (by (try simp) <;> omega)))⟩

set_option maxHeartbeats 1000000 in
theorem ropposite_walk (q : Rat) (hq : rz q ≤ 50000000) (w : World) :
    Calls Tryz.prog 184 #[FV q] w fun e w' => e = .returned (FV (-q)) ∧ Below w.heap.size w w' := by
  have H1 := Lib.hid (fun w => iNeg_walk q.num (Nat.le_trans (rz_num q) hq) w)
  rw [FV_eq, FV_eq, Rat.neg_num, Rat.neg_den]
  clear hq
  generalize itx q.num = s at *
  generalize itx (-q.num) = t at *
  generalize dec q.den = d at *
  go_enter Tryz.func184, Tryz.ntmps184
  go_wp2_with fail
  refine (H1.out _).mono ?_
  rintro e w1 ⟨rfl, g1⟩
  have hz1 : w.heap.size + 1 < w1.heap.size := by have := g1.size; (try simp at this); omega
  have hz1_0 : w.heap.size < w1.heap.size := by omega
  have B1 : Below w.heap.size w w1 := bn (by repeat (first | exact br _ | assumption | refine ba ?_ | refine bd ?_ | refine below_drewN ?_ _ | refine bs ?_ (by (try simp) <;> omega))) g1
  have c1_0_0 : w1.cell? ⟨w.heap.size, 0, none⟩ = some (.string s) := bc g1 (by first | with_reducible assumption | go_simp)
  have f1_0_0 : w1.frozen? ⟨w.heap.size, 0, none⟩ = false := bfz g1 (by (try simp) <;> omega) (by first | with_reducible assumption | go_simp)
  have c1_0_1 : w1.cell? ⟨w.heap.size, 1, none⟩ = some (.string d) := bc g1 (by first | with_reducible assumption | go_simp)
  have f1_0_1 : w1.frozen? ⟨w.heap.size, 1, none⟩ = false := bfz g1 (by (try simp) <;> omega) (by first | with_reducible assumption | go_simp)
  have c1_1_0 : w1.cell? ⟨w.heap.size + 1, 0, none⟩ = some (.string ⟨#[]⟩) := bc g1 (by first | with_reducible assumption | go_simp)
  have f1_1_0 : w1.frozen? ⟨w.heap.size + 1, 0, none⟩ = false := bfz g1 (by (try simp) <;> omega) (by first | with_reducible assumption | go_simp)
  have c1_1_1 : w1.cell? ⟨w.heap.size + 1, 1, none⟩ = some (.string ⟨#[]⟩) := bc g1 (by first | with_reducible assumption | go_simp)
  have f1_1_1 : w1.frozen? ⟨w.heap.size + 1, 1, none⟩ = false := bfz g1 (by (try simp) <;> omega) (by first | with_reducible assumption | go_simp)
  clear g1
  go_wp2
  refine bodyPost_ret (v := .agg #[.string t, .string d]) (by simp [results, Tryz.results184, go_sem, *]) rfl ⟨(by first | rfl | rw [hI]), (by repeat (first | exact br _ | assumption | refine ba ?_ | refine bd ?_ | refine below_drewN ?_ _ | refine bs ?_ (by (try simp) <;> omega)))⟩

theorem FV_inv (q : Rat) (h0 : q ≠ 0) : FV q⁻¹ = .agg #[.string (if q.num < 0 then itx (-(q.den : Int)) else dec q.den), .string (dec q.num.natAbs)] := by
  have hn : q.num ≠ 0 := fun e => h0 (Rat.num_eq_zero.1 e)
  rw [FV_eq, Rat.num_inv, Rat.den_inv, if_neg hn]
  split
  · rename_i h
    rw [Int.sign_eq_neg_one_of_neg h]
    simp
  · rename_i h
    rw [Int.sign_eq_one_of_pos (by omega)]
    simp [itx_nat]
theorem itx_negnat (n : Nat) (h : n ≠ 0) : itx (-(n : Int)) = ⟨#[45]⟩ ++ dec n := by
  rw [itx_dec, if_pos (by omega), Int.natAbs_neg, Int.natAbs_natCast]
  exact ba_ext (by simp)

set_option maxHeartbeats 1000000 in
theorem rinverse_walk (q : Rat) (h0 : q ≠ 0) (hq : rz q ≤ 50000000) (w : World) :
    Calls Tryz.prog 186 #[FV q] w fun e w' => e = .returned (FV q⁻¹) ∧ Below w.heap.size w w' := by
  have HC := Lib.hid (fun w => Tryz.strings_CutPrefix (itx q.num) ⟨#[45]⟩ w)
  rw [show (⟨#[45]⟩ : ByteArray).data.toList = [45] from rfl, itx_toList, hasPre_itoa, trimPre_itoa] at HC
  rw [show (⟨(Lib.decDigits q.num.natAbs).toArray⟩ : ByteArray) = dec q.num.natAbs from rfl] at HC
  rw [FV_inv q h0, FV_eq, itx_negnat _ q.den_nz]
  have k2 : (dec q.den).size ≤ 50000000 := by have := dg_def q.den; have := rz_den q; omega
  clear hq
  by_cases hn : q.num < 0
  · rw [if_pos hn]
    rw [decide_eq_true hn] at HC
    clear hn h0
    generalize itx q.num = s at *
    generalize dec q.num.natAbs = a at *
    generalize dec q.den = d at *
    go_enter Tryz.func186, Tryz.ntmps186
    go_wp2_with (go_at_call 174; refine (HC.out _).mono ?_; rintro e w' ⟨rfl, rfl⟩)
    refine bodyPost_ret (v := .agg #[.string (⟨#[45]⟩ ++ d), .string a]) (by simp [results, Tryz.results186, go_sem, *]) rfl ⟨(by first | rfl | rw [hI]), (by repeat (first | exact br _ | assumption | refine ba ?_ | refine bd ?_ | refine below_drewN ?_ _ | refine bs ?_ (by (try simp) <;> omega)))⟩
  · rw [if_neg hn]
    rw [decide_eq_false hn] at HC
    have hs : itx q.num = dec q.num.natAbs := by rw [itx_dec, if_neg hn]
    rw [hs] at HC ⊢
    clear hn h0 hs
    generalize dec q.num.natAbs = a at *
    generalize dec q.den = d at *
    go_enter Tryz.func186, Tryz.ntmps186
    go_wp2_with (go_at_call 174; refine (HC.out _).mono ?_; rintro e w' ⟨rfl, rfl⟩)
    refine bodyPost_ret (v := .agg #[.string d, .string a]) (by simp [results, Tryz.results186, go_sem, *]) rfl ⟨(by first | rfl | rw [hI]), (by repeat (first | exact br _ | assumption | refine ba ?_ | refine bd ?_ | refine below_drewN ?_ _ | refine bs ?_ (by (try simp) <;> omega)))⟩

set_option maxHeartbeats 1000000 in
theorem rsign_walk (q : Rat) (hq : rz q ≤ 50000000) (w : World) :
    Calls Tryz.prog 93 #[FV q] w fun e w' => e = .returned (.int .i64 (sgn q.num)) ∧ Below w.heap.size w w' := by
  have H1 := Lib.hid (fun w => iSign_walk q.num (Nat.le_trans (rz_num q) hq) w)
  rw [FV_eq]
  clear hq
  generalize itx q.num = s at *
  generalize sgn q.num = t at *
  generalize dec q.den = d at *
  go_enter Tryz.func93, Tryz.ntmps93
  go_wp2_with fail
  refine (H1.out _).mono ?_
  rintro e w1 ⟨rfl, g1⟩
  have B1 : Below w.heap.size w w1 := bn (by repeat (first | exact br _ | assumption | refine ba ?_ | refine bd ?_ | refine below_drewN ?_ _ | refine bs ?_ (by (try simp) <;> omega))) g1
  clear g1
  go_wp2
  go_ret
  exact ⟨rfl, (by repeat (first | exact br _ | assumption | refine ba ?_ | refine bd ?_ | refine below_drewN ?_ _ | refine bs ?_ (by (try simp) <;> omega)))⟩

theorem rtx_def (q : Rat) : rtx q = if q.den = 1 then itx q.num else itx q.num ++ ⟨#[47]⟩ ++ dec q.den := by
  refine ba_ext ?_
  rw [rtx_toList, rtoa]
  split
  · rw [itx_toList]
  · simp [itx, dec]
theorem itx_size2 (z : Int) : (itx z).size ≤ dg z.natAbs + 1 := itx_size z
set_option maxHeartbeats 1000000 in
theorem rtext_walk (q : Rat) (hq : rz q ≤ 50000000) (w : World) :
    Calls Tryz.prog 133 #[FV q] w fun e w' => e = .returned (.string (rtx q)) ∧ Below w.heap.size w w' := by
  have k1 : (itx q.num).size ≤ 50000001 := by have := itx_size q.num; have := rz_num q; omega
  have k2 : (dec q.den).size ≤ 50000000 := by have := dg_def q.den; have := rz_den q; omega
  have HQ := dec_ne1 q.den
  rw [FV_eq, rtx_def]
  by_cases h1 : q.den = 1
  · rw [if_pos h1]
    rw [decide_eq_true h1] at HQ
    clear h1 hq
    generalize itx q.num = s at *
    generalize dec q.den = d at *
    go_enter Tryz.func133, Tryz.ntmps133
    go_wp2
    go_ret
    exact ⟨rfl, (by repeat (first | exact br _ | assumption | refine ba ?_ | refine bd ?_ | refine below_drewN ?_ _ | refine bs ?_ (by (try simp) <;> omega)))⟩
  · rw [if_neg h1]
    rw [decide_eq_false h1] at HQ
    clear h1 hq
    generalize itx q.num = s at *
    generalize dec q.den = d at *
    go_enter Tryz.func133, Tryz.ntmps133
    go_wp2
    go_ret
    exact ⟨rfl, (by repeat (first | exact br _ | assumption | refine ba ?_ | refine bd ?_ | refine below_drewN ?_ _ | refine bs ?_ (by (try simp) <;> omega)))⟩
end Go.Proofs.YtbnbaokamccmjaaGreatDoor
