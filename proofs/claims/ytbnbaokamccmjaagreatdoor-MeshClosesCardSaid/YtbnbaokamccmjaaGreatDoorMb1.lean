/- Texts of integers and of rational numbers: which texts are numbers, their values. Plain lemmas: no program. -/
import Derived.Lib.IndexMore
import Derived.Test.YtbnbaokamccmjaaGreatDoorMa2
set_option linter.unusedVariables false
set_option linter.unusedSimpArgs false
namespace Go.Proofs.YtbnbaokamccmjaaGreatDoor
open Go.Lib

/-- The text of an integer. -/
def itx (z : Int) : ByteArray := ⟨(itoa z).toArray⟩
/-- The text is an integer. -/
def isIntL (l : List UInt8) : Bool := isNat (trimPrefix l [45]) && !(hasPrefix l [45] && trimPrefix l [45] == [48])
/-- The integer that a text says. -/
def intOfL (l : List UInt8) : Int := if hasPrefix l [45] then -(natOf (trimPrefix l [45]) : Int) else natOf (trimPrefix l [45])

theorem hasPre_cons (c : UInt8) (l : List UInt8) : hasPrefix (c :: l) [45] = (45 == c) := by simp [hasPrefix, List.isPrefixOf]
theorem hasPre_nil : hasPrefix [] [45] = false := rfl
theorem trimPre_minus (l : List UInt8) : trimPrefix (45 :: l) [45] = l := by simp [trimPrefix, hasPre_cons]
theorem trimPre_of {l : List UInt8} (h : hasPrefix l [45] = false) : trimPrefix l [45] = l := by simp [trimPrefix, h]
theorem of_hasPre {l : List UInt8} (h : hasPrefix l [45] = true) : l = 45 :: trimPrefix l [45] := by
  cases l with
  | nil => cases h
  | cons c l =>
    rw [hasPre_cons] at h
    have : c = 45 := (beq_iff_eq.1 h).symm
    subst this
    rw [trimPre_minus]

theorem digs_mem {l : List UInt8} (h : digs l = true) {c : UInt8} (hc : c ∈ l) : 48 ≤ c.toNat ∧ c.toNat ≤ 57 := by
  unfold digs at h
  have := List.all_eq_true.1 h c hc
  simpa using this
theorem hasPre_digs {l : List UInt8} (h : digs l = true) : hasPrefix l [45] = false := by
  cases l with
  | nil => rfl
  | cons c l =>
    rw [hasPre_cons]
    have := digs_mem h (List.mem_cons_self)
    refine beq_eq_false_iff_ne.2 fun e => ?_
    rw [← e] at this
    exact absurd this.1 (by decide)
theorem hasPre_dec (n : Nat) : hasPrefix (decDigits n) [45] = false := hasPre_digs (digs_decDigits n)

theorem itoa_neg {z : Int} (h : z < 0) : itoa z = 45 :: decDigits z.natAbs := by rw [itoa, if_pos h]
theorem itoa_nonneg {z : Int} (h : 0 ≤ z) : itoa z = decDigits z.natAbs := by
  rw [itoa, if_neg (by omega)]
  rw [show z.toNat = z.natAbs by omega]
theorem hasPre_itoa (z : Int) : hasPrefix (itoa z) [45] = decide (z < 0) := by
  by_cases h : z < 0
  · rw [itoa_neg h, hasPre_cons, decide_eq_true h]; rfl
  · rw [itoa_nonneg (by omega), hasPre_dec, decide_eq_false h]
theorem trimPre_itoa (z : Int) : trimPrefix (itoa z) [45] = decDigits z.natAbs := by
  by_cases h : z < 0
  · rw [itoa_neg h, trimPre_minus]
  · rw [itoa_nonneg (by omega), trimPre_of (hasPre_dec _)]
theorem decDigits_eq_zero (n : Nat) : (decDigits n == [48]) = decide (n = 0) := by
  by_cases h : n = 0
  · subst h
    rw [decDigits_small (by omega)]; rfl
  · rw [decide_eq_false h]
    refine beq_eq_false_iff_ne.2 fun e => h ?_
    have := congrArg natOf e
    rw [natOf_decDigits] at this
    rw [this]; rfl
theorem isIntL_itoa (z : Int) : isIntL (itoa z) = true := by
  unfold isIntL
  rw [trimPre_itoa, hasPre_itoa, isNat_decDigits, decDigits_eq_zero]
  by_cases h : z < 0
  · have : ¬ z.natAbs = 0 := by omega
    simp [h, this]
  · simp [h]
theorem intOfL_itoa (z : Int) : intOfL (itoa z) = z := by
  unfold intOfL
  rw [trimPre_itoa, hasPre_itoa, natOf_decDigits]
  by_cases h : z < 0
  · simp [h]; omega
  · simp [h]; omega
theorem itoa_intOfL {l : List UInt8} (h : isIntL l = true) : itoa (intOfL l) = l := by
  unfold isIntL at h
  rw [Bool.and_eq_true] at h
  obtain ⟨h1, h2⟩ := h
  have hd := decDigits_natOf h1
  unfold intOfL
  cases hp : hasPrefix l [45] with
  | true =>
    have h0 : natOf (trimPrefix l [45]) ≠ 0 := fun e => by
      rw [hp, ← hd, e] at h2
      simp [decDigits_small] at h2
    rw [if_pos rfl, itoa_neg (by omega), Int.natAbs_neg, Int.natAbs_natCast, hd]
    exact (of_hasPre hp).symm
  | false =>
    rw [if_neg (by decide), itoa_nonneg (by omega), Int.natAbs_natCast, hd, trimPre_of hp]
theorem itx_toList (z : Int) : (itx z).data.toList = itoa z := by simp [itx]
theorem itx_intOfL {s : ByteArray} (h : isIntL s.data.toList = true) : s = itx (intOfL s.data.toList) := ba_ext (by rw [itx_toList, itoa_intOfL h])
theorem itoa_inj {a b : Int} (h : itoa a = itoa b) : a = b := by rw [← intOfL_itoa a, h, intOfL_itoa]
theorem itx_inj {a b : Int} (h : itx a = itx b) : a = b := itoa_inj (by rw [← itx_toList, h, itx_toList])
theorem itx_nat (n : Nat) : itx (n : Int) = dec n := ba_ext (by rw [itx_toList, dec_toList, itoa_nonneg (by omega), Int.natAbs_natCast])
theorem itx_dec (z : Int) : itx z = if z < 0 then ⟨#[45] ++ (dec z.natAbs).data⟩ else dec z.natAbs := by
  refine ba_ext ?_
  rw [itx_toList]
  split
  · rename_i h
    rw [itoa_neg h]
    simp [dec]
  · rw [itoa_nonneg (by omega), dec_toList]

/- Where the first slash stands. -/
theorem index_no {l : List UInt8} (h : (47 : UInt8) ∉ l) : index l [47] = -1 := by
  induction l with
  | nil => rfl
  | cons c l ih =>
    rw [List.mem_cons, not_or] at h
    have hc : ((47 : UInt8) == c) = false := beq_eq_false_iff_ne.2 h.1
    unfold index
    rw [ih h.2]
    simp [List.isPrefixOf, hc]
theorem index_yes {p : List UInt8} (r : List UInt8) (h : (47 : UInt8) ∉ p) : index (p ++ 47 :: r) [47] = p.length := by
  induction p with
  | nil => simp [index, List.isPrefixOf]
  | cons c l ih =>
    rw [List.mem_cons, not_or] at h
    have hc : ((47 : UInt8) == c) = false := beq_eq_false_iff_ne.2 h.1
    have hi := ih h.2
    rw [List.cons_append, index, hi]
    have hne : ((l.length : Int) == -1) = false := beq_eq_false_iff_ne.2 (by omega)
    simp [List.isPrefixOf, hc, hne]
theorem cut_no {l : List UInt8} (h : (47 : UInt8) ∉ l) : cut l [47] = (l, [], false) := by
  unfold cut
  rw [index_no h, if_neg (by omega)]
theorem cut_yes {p : List UInt8} (r : List UInt8) (h : (47 : UInt8) ∉ p) : cut (p ++ 47 :: r) [47] = (p, r, true) := by
  unfold cut
  rw [index_yes r h, if_pos (by omega), Int.toNat_natCast]
  simp
theorem cut_cases (l : List UInt8) : ((47 : UInt8) ∉ l ∧ cut l [47] = (l, [], false)) ∨ ∃ p r, (47 : UInt8) ∉ p ∧ l = p ++ 47 :: r ∧ cut l [47] = (p, r, true) := by
  by_cases h : (47 : UInt8) ∈ l
  · obtain ⟨p, r, e, hp⟩ := List.eq_append_cons_of_mem h
    exact .inr ⟨p, r, hp, e, by rw [e, cut_yes r hp]⟩
  · exact .inl ⟨h, cut_no h⟩

theorem noslash_digs {l : List UInt8} (h : digs l = true) : (47 : UInt8) ∉ l := fun hm => absurd (digs_mem h hm).1 (by decide)
theorem noslash_itoa (z : Int) : (47 : UInt8) ∉ itoa z := by
  by_cases h : z < 0
  · rw [itoa_neg h, List.mem_cons, not_or]
    exact ⟨by decide, noslash_digs (digs_decDigits _)⟩
  · rw [itoa_nonneg (by omega)]
    exact noslash_digs (digs_decDigits _)

/-- A rational number's text. -/
def rtoa (q : Rat) : List UInt8 := if q.den = 1 then itoa q.num else itoa q.num ++ 47 :: decDigits q.den
def rtx (q : Rat) : ByteArray := ⟨(rtoa q).toArray⟩
/-- The two parts of a text with a slash say a number in lowest terms. -/
def isFracL (p d : List UInt8) : Bool := isIntL p && (p != [48]) && isNat d && (d != [48]) && (d != [49]) && decide (Nat.gcd (intOfL p).natAbs (natOf d) = 1)
/-- The text is a rational number. -/
def isRatL (l : List UInt8) : Bool := if (cut l [47]).2.2 then isFracL (cut l [47]).1 (cut l [47]).2.1 else isIntL (cut l [47]).1
/-- The number that a text says. -/
def ratOfL (l : List UInt8) : Rat := if (cut l [47]).2.2 then mkRat (intOfL (cut l [47]).1) (natOf (cut l [47]).2.1) else ((intOfL (cut l [47]).1 : Int) : Rat)

theorem rtx_toList (q : Rat) : (rtx q).data.toList = rtoa q := by simp [rtx]
theorem cut_rtoa (q : Rat) : cut (rtoa q) [47] = if q.den = 1 then (itoa q.num, [], false) else (itoa q.num, decDigits q.den, true) := by
  unfold rtoa
  split
  · exact cut_no (noslash_itoa _)
  · exact cut_yes _ (noslash_itoa _)
theorem decDigits_eq_one (n : Nat) : (decDigits n == [49]) = decide (n = 1) := by
  by_cases h : n = 1
  · subst h
    rw [decDigits_small (by omega)]; rfl
  · rw [decide_eq_false h]
    refine beq_eq_false_iff_ne.2 fun e => h ?_
    have := congrArg natOf e
    rw [natOf_decDigits] at this
    rw [this]; rfl
theorem itoa_eq_zero (z : Int) : (itoa z == [48]) = decide (z = 0) := by
  by_cases h : z < 0
  · rw [itoa_neg h, decide_eq_false (by omega)]
    exact beq_eq_false_iff_ne.2 fun e => absurd (List.cons.inj e).1 (by decide)
  · rw [itoa_nonneg (by omega), decDigits_eq_zero]
    exact decide_eq_decide.2 (by omega)
theorem rat_num_ne {q : Rat} (h : q.den ≠ 1) : q.num ≠ 0 := fun e => by
  have := q.reduced
  rw [e] at this
  simp [Nat.Coprime] at this
  exact h this
theorem isRatL_rtoa (q : Rat) : isRatL (rtoa q) = true := by
  unfold isRatL
  rw [cut_rtoa]
  by_cases h : q.den = 1
  · rw [if_pos h]
    simp [isIntL_itoa]
  · have h0 := q.den_nz
    rw [if_neg h]
    have h1 := rat_num_ne h
    have h2 := q.reduced
    unfold Nat.Coprime at h2
    simp only [isFracL, isIntL_itoa, isNat_decDigits, bne, decDigits_eq_zero, decDigits_eq_one, itoa_eq_zero, intOfL_itoa, natOf_decDigits, h, h0, h1, h2]
    rfl
theorem ratOfL_rtoa (q : Rat) : ratOfL (rtoa q) = q := by
  unfold ratOfL
  rw [cut_rtoa]
  by_cases h : q.den = 1
  · rw [if_pos h]
    simp only [intOfL_itoa]
    refine Rat.ext ?_ ?_
    · simp
    · simp [h]
  · rw [if_neg h]
    simp only [intOfL_itoa, natOf_decDigits]
    simp only [if_true]
    exact Rat.mkRat_self q
theorem rtoa_ratOfL {l : List UInt8} (h : isRatL l = true) : rtoa (ratOfL l) = l := by
  unfold isRatL at h
  unfold ratOfL
  rcases cut_cases l with ⟨h1, e⟩ | ⟨p, r, hp, hl, e⟩
  · rw [e] at h ⊢
    simp only [Bool.false_eq_true, if_false] at h ⊢
    simp [rtoa, itoa_intOfL h]
  · rw [e] at h ⊢
    simp only [if_true] at h ⊢
    simp only [isFracL, Bool.and_eq_true, decide_eq_true_eq, bne_iff_ne, ne_eq] at h
    obtain ⟨⟨⟨⟨⟨g1, g2⟩, g3⟩, g4⟩, g5⟩, g6⟩ := h
    have hd0 : natOf r ≠ 0 := fun e0 => g4 (by rw [← decDigits_natOf g3, e0, decDigits_small (by omega)]; rfl)
    have hd1 : natOf r ≠ 1 := fun e0 => g5 (by rw [← decDigits_natOf g3, e0, decDigits_small (by omega)]; rfl)
    have hn : (mkRat (intOfL p) (natOf r)).num = intOfL p := by rw [Rat.num_mkRat]; simp [g6, hd0, Nat.gcd_comm (natOf r)]
    have hdn : (mkRat (intOfL p) (natOf r)).den = natOf r := by rw [Rat.den_mkRat]; simp [g6, hd0, Nat.gcd_comm (natOf r)]
    rw [rtoa, hdn, if_neg hd1, hn, itoa_intOfL g1, decDigits_natOf g3, hl]
theorem rtx_ratOfL {s : ByteArray} (h : isRatL s.data.toList = true) : s = rtx (ratOfL s.data.toList) := ba_ext (by rw [rtx_toList, rtoa_ratOfL h])
theorem rtoa_inj {a b : Rat} (h : rtoa a = rtoa b) : a = b := by rw [← ratOfL_rtoa a, h, ratOfL_rtoa]
theorem rtx_inj {a b : Rat} (h : rtx a = rtx b) : a = b := rtoa_inj (by rw [← rtx_toList, h, rtx_toList])
theorem rtx_eq {a b : Rat} : rtx a = rtx b ↔ a = b := ⟨rtx_inj, fun e => by rw [e]⟩
/-- A text is a number, or it is none. -/
def isRat (s : ByteArray) : Bool := isRatL s.data.toList
theorem isRat_rtx (q : Rat) : isRat (rtx q) = true := by rw [isRat, rtx_toList, isRatL_rtoa]
theorem isRat_iff {s : ByteArray} : isRat s = true ↔ ∃ q, s = rtx q := ⟨fun h => ⟨_, rtx_ratOfL h⟩, fun ⟨q, e⟩ => by rw [e, isRat_rtx]⟩
def isIntB (s : ByteArray) : Bool := isIntL s.data.toList
theorem isIntB_itx (z : Int) : isIntB (itx z) = true := by rw [isIntB, itx_toList, isIntL_itoa]
theorem isIntB_iff {s : ByteArray} : isIntB s = true ↔ ∃ z, s = itx z := ⟨fun h => ⟨_, itx_intOfL h⟩, fun ⟨q, e⟩ => by rw [e, isIntB_itx]⟩
theorem itx_eq_zero (z : Int) : itx z = ⟨#[48]⟩ ↔ z = 0 := by
  have := itoa_eq_zero z
  rw [← itx_toList] at this
  constructor
  · intro e
    rw [e] at this
    have h2 : ((#[48] : Array UInt8).toList == [48]) = true := rfl
    rw [h2] at this
    exact of_decide_eq_true this.symm
  · rintro rfl
    rw [show itx 0 = dec 0 from itx_nat 0, dec_zero]
end Go.Proofs.YtbnbaokamccmjaaGreatDoor
