
/- rational: divisor, lowest, opposite, inverse, sign, text. -/
import Derived.Test.YtopfedbhkfdjkaaGreatDoorE5
import Derived.IntWalk
import Derived.Carry
import Derived.ChangeMaps4
set_option linter.unusedVariables false
set_option linter.unusedSimpArgs false
namespace Go.Proofs.YtopfedbhkfdjkaaGreatDoor
open Go Go.RowKit
def FV (q : Rat) : Value:=.agg #[.string (itx q.num),.string (dec q.den)]
theorem FV_eq (q : Rat) : FV q=.agg #[.string (itx q.num),.string (dec q.den)]:=rfl
theorem FV_shape (q : Rat) : ∃ c d,FV q=.agg #[.string c,.string d]:=⟨_,_,rfl⟩
set_option maxHeartbeats 1000000 in
theorem divisor_walk (p : Int) (d : Nat) (hp : dg p.natAbs≤50000000) (hd : dg d≤50000000) (w : World) (hB : Bw w) :
  Calls Tryz.prog 157 #[.string (itx p),.string (dec d)] w fun e w'=>e=.returned (.string (dec (Nat.gcd p.natAbs d)))∧Below w.heap.size w w':=by
 have hg : (wds (Nat.gcd p.natAbs d)).length≤100000000:=by
  have h1:=wds_le_dg (Nat.gcd p.natAbs d)
  by_cases h0 : p.natAbs=0
  ·have:=wds_le_dg d; rw [h0,Nat.gcd_zero_left]; omega
  ·have:=dg_mono (Nat.gcd_le_left d (Nat.pos_of_ne_zero h0))
   omega
 have H1:=Lib.hid (fun w=>iAbs_walk p hp w)
 have H2:=Lib.hid (fun w hB=>natGCD_walk p.natAbs d (by have:=dg_def p.natAbs; omega) (by have:=dg_def d; omega) hg w hB)
 clear hp hd hg
 generalize dec (Nat.gcd p.natAbs d)=g at *
 generalize itx p=s at *
 generalize dec p.natAbs=a at *
 generalize dec d=t at *
 go_enter Tryz.func157,Tryz.ntmps157
 go_wp2_with fail
 refine (H1.out _).mono ?_
 rintro e w1 ⟨rfl,g1⟩
 have B1:=bn (w:=w) bel g1
 clear g1
 go_wp2_with fail
 refine (H2.out _ (hB.below bel)).mono ?_
 rintro e w2 ⟨rfl,g2⟩
 have B2:=bn (w:=w) bel g2
 clear g2
 go_wp2
 go_ret
 exact ⟨rfl,bel⟩
theorem FV_mk (p : Int) (d : Nat) (h0 : d≠0) : FV (mkRat p d)=.agg #[.string (itx (p / (Nat.gcd p.natAbs d : Int))),.string (dec (d / Nat.gcd p.natAbs d))]:=by
 rw [FV_eq,Rat.num_mkRat,Rat.den_mkRat,Nat.gcd_comm d]
 simp [h0]
theorem dec_ne1 (n : Nat) : ((dec n).toList == [49])=decide (n=1):=by rw [ByteArray.toList_eq,dec_toList,decDigits_eq_one]
set_option maxHeartbeats 1000000 in
theorem lowest_walk (p : Int) (d : Nat) (h0 : d≠0) (hp : dg p.natAbs≤50000000) (hd : dg d≤50000000) (w : World) (hB : Bw w) :
  Calls Tryz.prog 210 #[.string (itx p),.string (dec d)] w fun e w'=>e=.returned (FV (mkRat p d))∧Below w.heap.size w w':=by
 rw [FV_mk p d h0]
 have hgp : 0<Nat.gcd p.natAbs d:=Nat.gcd_pos_of_pos_right _ (by omega)
 have hgd : Nat.gcd p.natAbs d≤d:=Nat.gcd_le_right _ (by omega)
 have hgg:=Nat.le_trans (dg_mono hgd) hd
 have H1:=Lib.hid (fun w hB=>divisor_walk p d hp hd w hB)
 have H2:=Lib.hid (fun w hB=>iDivMod_walk p (Nat.gcd p.natAbs d : Int) (by omega) hp (by rw [Int.natAbs_natCast]; exact hgg) w hB)
 rw [itx_nat] at H2
 have H3:=Lib.hid (fun w hB=>natDivMod_walk d (Nat.gcd p.natAbs d) hgp (by have:=dg_def d; omega) (by have:=dg_def (Nat.gcd p.natAbs d); omega) (by have:=wds_le_dg (d / Nat.gcd p.natAbs d); have:=dg_mono (Nat.div_le_self d (Nat.gcd p.natAbs d)); omega) (by have:=wds_le_dg (d % Nat.gcd p.natAbs d); have:=dg_mono (Nat.le_of_lt (Nat.mod_lt d hgp)); omega) w hB)
 have HQ:=dec_ne1 (Nat.gcd p.natAbs d)
 by_cases hg1 : Nat.gcd p.natAbs d=1
 ·rw [hg1] at HQ H1
  rw [hg1,Nat.div_one,show ((1 : Nat) : Int)=1 from rfl,Int.ediv_one]
  rw [decide_eq_true rfl] at HQ
  clear H2 H3 hgp hgd hgg hp hd hg1
  generalize dec 1=g at *
  generalize itx p=s at *
  generalize dec d=t at *
  go_enter Tryz.func210,Tryz.ntmps210
  go_wp2_with fail
  refine (H1.out _ (hB.below bel)).mono ?_
  rintro e w1 ⟨rfl,g1⟩
  have hz1 : w.heap.size<w1.heap.size:=hzs g1
  have B1:=bn (w:=w) bel g1
  have c1_0_0:=bcv g1 w.heap.size 0 (.string ⟨#[]⟩)
  have f1_0_0:=bfv g1 w.heap.size 0
  have c1_0_1:=bcv g1 w.heap.size 1 (.string ⟨#[]⟩)
  have f1_0_1:=bfv g1 w.heap.size 1
  clear g1
  go_wp2
  refine bodyPost_ret (v:=.agg #[.string s,.string t]) (by simp [results,Tryz.results210,go_sem, *]) rfl ⟨(by first | rfl | rw [hI]),bel⟩
 ·rw [decide_eq_false hg1] at HQ
  clear hgp hgd hgg hp hd hg1
  generalize dec (Nat.gcd p.natAbs d)=g at *
  generalize itx p=s at *
  generalize dec d=t at *
  generalize itx (p / (Nat.gcd p.natAbs d : Int))=s1 at *
  generalize itx (p % (Nat.gcd p.natAbs d : Int))=s2 at *
  generalize dec (d / Nat.gcd p.natAbs d)=t1 at *
  generalize dec (d % Nat.gcd p.natAbs d)=t2 at *
  go_enter Tryz.func210,Tryz.ntmps210
  go_wp2_with fail
  refine (H1.out _ (hB.below bel)).mono ?_
  rintro e w1 ⟨rfl,g1⟩
  have hz1 : w.heap.size<w1.heap.size:=hzs g1
  have B1:=bn (w:=w) bel g1
  have c1_0_0:=bcv g1 w.heap.size 0 (.string ⟨#[]⟩)
  have f1_0_0:=bfv g1 w.heap.size 0
  have c1_0_1:=bcv g1 w.heap.size 1 (.string ⟨#[]⟩)
  have f1_0_1:=bfv g1 w.heap.size 1
  clear g1
  go_wp2_with fail
  refine (H2.out _ (hB.below bel)).mono ?_
  rintro e w2 ⟨rfl,g2⟩
  have hz2 : w.heap.size<w2.heap.size:=hzs g2
  have B2:=bn (w:=w) bel g2
  have c2_0_0:=bcv g2 w.heap.size 0 (.string ⟨#[]⟩)
  have f2_0_0:=bfv g2 w.heap.size 0
  have c2_0_1:=bcv g2 w.heap.size 1 (.string ⟨#[]⟩)
  have f2_0_1:=bfv g2 w.heap.size 1
  clear g2
  go_wp2_with fail
  refine (H3.out _ (hB.below bel)).mono ?_
  rintro e w3 ⟨rfl,g3⟩
  have hz3 : w.heap.size<w3.heap.size:=hzs g3
  have B3:=bn (w:=w) bel g3
  have c3_0_0:=bcv g3 w.heap.size 0 (.string ⟨#[]⟩)
  have f3_0_0:=bfv g3 w.heap.size 0
  have c3_0_1:=bcv g3 w.heap.size 1 (.string ⟨#[]⟩)
  have f3_0_1:=bfv g3 w.heap.size 1
  clear g3
  go_wp2
  refine bodyPost_ret (v:=.agg #[.string s1,.string t1]) (by simp [results,Tryz.results210,go_sem, *]) rfl ⟨(by first | rfl | rw [hI]),bel⟩
set_option maxHeartbeats 1000000 in
theorem ropposite_walk (q : Rat) (hq : rz q≤50000000) (w : World) :
  Calls Tryz.prog 189 #[FV q] w fun e w'=>e=.returned (FV (-q))∧Below w.heap.size w w':=by
 have H1:=Lib.hid (fun w=>iNeg_walk q.num (Nat.le_trans (rz_num q) hq) w)
 rw [FV_eq,FV_eq,Rat.neg_num,Rat.neg_den]
 clear hq
 generalize itx q.num=s at *
 generalize itx (-q.num)=t at *
 generalize dec q.den=d at *
 go_enter Tryz.func189,Tryz.ntmps189
 go_wp2_with fail
 refine (H1.out _).mono ?_
 rintro e w1 ⟨rfl,g1⟩
 have hz1 : w.heap.size+1<w1.heap.size:=hzs g1
 have hz1_0 : w.heap.size<w1.heap.size:=by omega
 have B1:=bn (w:=w) bel g1
 have c1_0_0:=bcv g1 w.heap.size 0 (.string s)
 have f1_0_0:=bfv g1 w.heap.size 0
 have c1_0_1:=bcv g1 w.heap.size 1 (.string d)
 have f1_0_1:=bfv g1 w.heap.size 1
 have c1_1_0:=bcv g1 (w.heap.size+1) 0 (.string ⟨#[]⟩)
 have f1_1_0:=bfv g1 (w.heap.size+1) 0
 have c1_1_1:=bcv g1 (w.heap.size+1) 1 (.string ⟨#[]⟩)
 have f1_1_1:=bfv g1 (w.heap.size+1) 1
 clear g1
 go_wp2
 refine bodyPost_ret (v:=.agg #[.string t,.string d]) (by simp [results,Tryz.results189,go_sem, *]) rfl ⟨(by first | rfl | rw [hI]),bel⟩
theorem FV_inv (q : Rat) (h0 : q≠0) : FV q⁻¹=.agg #[.string (if q.num<0 then itx (-(q.den : Int)) else dec q.den),.string (dec q.num.natAbs)]:=by
 have hn : q.num≠0:=fun e=>h0 (Rat.num_eq_zero.1 e)
 rw [FV_eq,Rat.num_inv,Rat.den_inv,if_neg hn]
 split
 ·rename_i h
  rw [Int.sign_eq_neg_one_of_neg h]
  simp
 ·rename_i h
  rw [Int.sign_eq_one_of_pos (by omega)]
  simp [itx_nat]
theorem itx_negnat (n : Nat) (h : n≠0) : itx (-(n : Int))=⟨#[45]⟩++dec n:=by
 rw [itx_dec,if_pos (by omega),Int.natAbs_neg,Int.natAbs_natCast]
 exact ba_ext (by simp)
set_option maxHeartbeats 1000000 in
theorem rinverse_walk (q : Rat) (h0 : q≠0) (hq : rz q≤50000000) (w : World) :
  Calls Tryz.prog 191 #[FV q] w fun e w'=>e=.returned (FV q⁻¹)∧Below w.heap.size w w':=by
 have HC:=Lib.hid (fun w=>Tryz.strings_CutPrefix (itx q.num) ⟨#[45]⟩ w)
 rw [show (⟨#[45]⟩ : ByteArray).data.toList=[45] from rfl,itx_toList,hasPre_itoa,trimPre_itoa] at HC
 rw [show (⟨(Lib.decDigits q.num.natAbs).toArray⟩ : ByteArray)=dec q.num.natAbs from rfl] at HC
 rw [FV_inv q h0,FV_eq,itx_negnat _ q.den_nz]
 have k2 : (dec q.den).size≤50000000:=by have:=dg_def q.den; have:=rz_den q; omega
 clear hq
 by_cases hn : q.num<0
 ·rw [if_pos hn]
  rw [decide_eq_true hn] at HC
  clear hn h0
  generalize itx q.num=s at *
  generalize dec q.num.natAbs=a at *
  generalize dec q.den=d at *
  go_enter Tryz.func191,Tryz.ntmps191
  go_wp2_with (go_at_call 196; refine (HC.out _).mono ?_; rintro e w' ⟨rfl,rfl⟩)
  refine bodyPost_ret (v:=.agg #[.string (⟨#[45]⟩++d),.string a]) (by simp [results,Tryz.results191,go_sem, *]) rfl ⟨(by first | rfl | rw [hI]),bel⟩
 ·rw [if_neg hn]
  rw [decide_eq_false hn] at HC
  have hs : itx q.num=dec q.num.natAbs:=by rw [itx_dec,if_neg hn]
  rw [hs] at HC ⊢
  clear hn h0 hs
  generalize dec q.num.natAbs=a at *
  generalize dec q.den=d at *
  go_enter Tryz.func191,Tryz.ntmps191
  go_wp2_with (go_at_call 196; refine (HC.out _).mono ?_; rintro e w' ⟨rfl,rfl⟩)
  refine bodyPost_ret (v:=.agg #[.string d,.string a]) (by simp [results,Tryz.results191,go_sem, *]) rfl ⟨(by first | rfl | rw [hI]),bel⟩
set_option maxHeartbeats 1000000 in
theorem rsign_walk (q : Rat) (hq : rz q≤50000000) (w : World) :
  Calls Tryz.prog 94 #[FV q] w fun e w'=>e=.returned (.int .i64 (sgn q.num))∧Below w.heap.size w w':=by
 have H1:=Lib.hid (fun w=>iSign_walk q.num (Nat.le_trans (rz_num q) hq) w)
 rw [FV_eq]
 clear hq
 generalize itx q.num=s at *
 generalize sgn q.num=t at *
 generalize dec q.den=d at *
 go_enter Tryz.func94,Tryz.ntmps94
 go_wp2_with fail
 refine (H1.out _).mono ?_
 rintro e w1 ⟨rfl,g1⟩
 have B1:=bn (w:=w) bel g1
 clear g1
 go_wp2
 go_ret
 exact ⟨rfl,bel⟩
theorem rtx_def (q : Rat) : rtx q=if q.den=1 then itx q.num else itx q.num++⟨#[47]⟩++dec q.den:=by
 refine ba_ext ?_
 rw [rtx_toList,rtoa]
 split
 ·rw [itx_toList]
 ·simp [itx,dec]
set_option maxHeartbeats 1000000 in
theorem rtext_walk (q : Rat) (hq : rz q≤50000000) (w : World) :
  Calls Tryz.prog 121 #[FV q] w fun e w'=>e=.returned (.string (rtx q))∧Below w.heap.size w w':=by
 have k1 : (itx q.num).size≤50000001:=by have:=itx_size q.num; have:=rz_num q; omega
 have k2 : (dec q.den).size≤50000000:=by have:=dg_def q.den; have:=rz_den q; omega
 have HQ:=dec_ne1 q.den
 rw [FV_eq,rtx_def]
 by_cases h1 : q.den=1
 ·rw [if_pos h1]
  rw [decide_eq_true h1] at HQ
  clear h1 hq
  generalize itx q.num=s at *
  generalize dec q.den=d at *
  go_enter Tryz.func121,Tryz.ntmps121
  go_wp2
  go_ret
  exact ⟨rfl,bel⟩
 ·rw [if_neg h1]
  rw [decide_eq_false h1] at HQ
  clear h1 hq
  generalize itx q.num=s at *
  generalize dec q.den=d at *
  go_enter Tryz.func121,Tryz.ntmps121
  go_wp2
  go_ret
  exact ⟨rfl,bel⟩
end Go.Proofs.YtopfedbhkfdjkaaGreatDoor


/- rational: little, of. -/
namespace Go.Proofs.YtopfedbhkfdjkaaGreatDoor
open Go Go.RowKit
theorem pow9 : (10 : Nat) ^ 9=1000000000:=by decide
theorem pow63 : (2 : Nat) ^ 63=9223372036854775808:=by decide
theorem lt_of_len {n : Nat} (h : (Lib.decDigits n).length≤9) : n<1000000000:=by
 have h1:=natOf_lt (digs_decDigits n)
 rw [natOf_decDigits] at h1
 have h2 : (10 : Nat) ^ (Lib.decDigits n).length≤10 ^ 9:=Nat.pow_le_pow_right (by omega) h
 rw [pow9] at h2
 omega
theorem parse_itoa (z : Int) (h : (Lib.itoa z).length≤9) : Lib.parseIntB 64 (Lib.itoa z)=.ok z:=by
 by_cases hz : z<0
 ·rw [itoa_neg hz] at h ⊢
  have hl : (Lib.decDigits z.natAbs).length≤9:=by simp at h; omega
  have hb:=lt_of_len hl
  have hp:=parse_word (digs_decDigits z.natAbs) (decDigits_ne _) hl 64 (by omega)
  unfold Lib.parseIntB
  have e : (if ((45 : UInt8).toNat=43∨(45 : UInt8).toNat=45) then Lib.decDigits z.natAbs else 45 :: Lib.decDigits z.natAbs)=Lib.decDigits z.natAbs:=if_pos (.inr rfl)
  simp only [e,hp,natOf_decDigits,show (64 : Nat) - 1=63 from rfl,pow63]
  rw [if_neg (by intro h; exact h.1 rfl),if_neg (by intro h; omega),if_pos (by rfl)]
  congr 1
  omega
 ·rw [itoa_nonneg (by omega)] at h ⊢
  have hb:=lt_of_len h
  have hp:=parse_word (digs_decDigits z.natAbs) (decDigits_ne _) h 64 (by omega)
  have hd:=digs_decDigits z.natAbs
  have hn:=natOf_decDigits z.natAbs
  cases hl : Lib.decDigits z.natAbs with
  | nil=>exact absurd hl (decDigits_ne _)
  | cons c r =>
   rw [hl] at hp hd hn
   have hc:=digs_mem hd (List.mem_cons_self)
   unfold Lib.parseIntB
   have e : (if (c.toNat=43∨c.toNat=45) then r else c :: r)=c :: r:=if_neg (by omega)
   have e2 : ¬ c.toNat=45:=by omega
   simp only [e,hp,hn,show (64 : Nat) - 1=63 from rfl,pow63]
   rw [if_neg (by intro h; omega),if_neg (by intro h; exact e2 h.1),if_neg e2]
   congr 1
   omega
theorem parse_itx (z : Int) (h : (itx z).size≤9) : Lib.parseIntB 64 (itx z).data.toList=.ok z:=by
 rw [itx_toList]
 refine parse_itoa z ?_
 rw [← itx_toList,toList_length]
 exact h
def shortB (q : Rat) : Bool:=decide ((itx q.num).size≤9) && decide ((dec q.den).size≤9)
set_option maxHeartbeats 1000000 in
theorem little_short (q : Rat) (h : shortB q=true) (w : World) :
  Calls Tryz.prog 207 #[FV q] w fun e w'=>e=.returned (.tuple #[.int .i64 q.num,.int .i64 (q.den : Int),.bool true])∧Below w.heap.size w w':=by
 unfold shortB at h
 rw [Bool.and_eq_true,decide_eq_true_eq,decide_eq_true_eq] at h
 obtain ⟨h1,h2⟩:=h
 have H1:=Lib.hid (fun w=>parseInt_walk (itx q.num) (by omega) q.num (parse_itx _ h1) w)
 have H2:=Lib.hid (fun w=>parseInt_walk (dec q.den) (by omega) (q.den : Int) (by have:=parse_itx (q.den : Int) (by rw [itx_nat]; exact h2); rwa [itx_nat] at this) w)
 rw [FV_eq]
 generalize itx q.num=s at *
 generalize dec q.den=d at *
 generalize q.num=p at *
 generalize (q.den : Int)=r at *
 have k1 : ¬ (9 : Int)<(s.size : Int):=by omega
 have k2 : ¬ (9 : Int)<(d.size : Int):=by omega
 go_enter Tryz.func207,Tryz.ntmps207
 go_wp2_with fail
 refine (H1.out _).mono ?_
 rintro e w1 ⟨rfl,g1⟩
 have hz1 : w.heap.size<w1.heap.size:=hzs g1
 have B1:=bn (w:=w) bel g1
 have c1_0_0:=bcv g1 w.heap.size 0 (.string s)
 have f1_0_0:=bfv g1 w.heap.size 0
 have c1_0_1:=bcv g1 w.heap.size 1 (.string d)
 have f1_0_1:=bfv g1 w.heap.size 1
 clear g1
 go_wp2_with fail
 refine (H2.out _).mono ?_
 rintro e w2 ⟨rfl,g2⟩
 have B2:=bn (w:=w) bel g2
 clear g2
 go_wp2
 go_ret3
 exact ⟨rfl,bel⟩
set_option maxHeartbeats 1000000 in
theorem little_long (q : Rat) (h : shortB q=false) (w : World) :
  Calls Tryz.prog 207 #[FV q] w fun e w'=>e=.returned (.tuple #[.int .i64 0,.int .i64 0,.bool false])∧Below w.heap.size w w':=by
 unfold shortB at h
 rw [FV_eq]
 generalize itx q.num=s at *
 generalize dec q.den=d at *
 by_cases k1 : (9 : Int)<(s.size : Int)
 ·clear h
  go_enter Tryz.func207,Tryz.ntmps207
  go_wp2
  go_ret3
  exact ⟨rfl,bel⟩
 ·have k2 : (9 : Int)<(d.size : Int):=by
   rcases Nat.lt_or_ge 9 d.size with h9 | h9
   ·omega
   ·rw [decide_eq_true (show s.size≤9 by omega),decide_eq_true h9] at h
    cases h
  clear h
  go_enter Tryz.func207,Tryz.ntmps207
  go_wp2
  go_ret3
  exact ⟨rfl,bel⟩
theorem gcd_tmod (a b : Int) : Nat.gcd b.natAbs (a.tmod b).natAbs=Nat.gcd a.natAbs b.natAbs:=by
 rw [Int.natAbs_tmod,Nat.gcd_comm b.natAbs,← Nat.gcd_rec,Nat.gcd_comm]
set_option maxHeartbeats 2000000 in
theorem rof_walk (p q : Int) (hp1 : -2000000000000000000≤p) (hp2 : p≤2000000000000000000) (hq1 : 1≤q) (hq2 : q≤1000000000000000000) (w : World) (hB : Bw w) :
  Calls Tryz.prog 208 #[.int .i64 p,.int .i64 q] w fun e w'=>e=.returned (FV (mkRat p q.toNat))∧Below w.heap.size w w':=by
 go_enter Tryz.func208,Tryz.ntmps208
 go_wp2
 go_loopw [5,6] (fun aa bb wr=>∃ (a b : Int) (n : Nat),aa=.int .i64 a∧bb=.int .i64 b∧Hid (Nat.gcd a.natAbs b.natAbs=Nat.gcd p.natAbs q.natAbs)∧a.natAbs≤2000000000000000000∧b.natAbs≤2000000000000000000∧wr=(w.alloc (.cells #[.string ⟨#[]⟩,.string ⟨#[]⟩] 159)).drewN n) (fun _ bb _=>(intOf bb).natAbs)
 case atStart=>exact ⟨p,q,0,rfl,rfl,Lib.hid rfl,by omega,by omega,rfl⟩
 case round =>
  obtain ⟨a,b,n,rfl,rfl,hg,ha,hb,rfl⟩:=hrel
  by_cases hb0 : b=0
  ·subst hb0
   have ha1 : -2000000000000000000≤a:=by omega
   have ha2 : a≤2000000000000000000:=by omega
   clear ha hb
   have hg':=hg.out
   rw [show (0 : Int).natAbs=0 from rfl,Nat.gcd_zero_right] at hg'
   have hFV:=FV_mk p q.toNat (by omega)
   obtain ⟨R,hR⟩ : ∃ R,R=FV (mkRat p q.toNat):=⟨_,rfl⟩
   rw [← hR,show q.toNat=q.natAbs by omega,← hg'] at hFV
   have hgp : 0<a.natAbs:=by
    rw [hg']; exact Nat.gcd_pos_of_pos_right _ (by omega)
   have hm : max a (-a)=(a.natAbs : Int):=by omega
   have d1 : (a.natAbs : Int) ∣ p:=Int.ofNat_dvd_left.2 (by rw [hg']; exact Nat.gcd_dvd_left _ _)
   have d2 : a.natAbs ∣ q.natAbs:=by rw [hg']; exact Nat.gcd_dvd_right _ _
   have t1 : p.tdiv (a.natAbs : Int)=p / (a.natAbs : Int):=Int.tdiv_eq_ediv_of_dvd d1
   have t2 : q.tdiv (a.natAbs : Int)=((q.natAbs / a.natAbs : Nat) : Int):=by
    rw [Int.natCast_ediv,show (q.natAbs : Int)=q by omega]
    exact Int.tdiv_eq_ediv_of_nonneg (by omega)
   have b1 : (p / (a.natAbs : Int)).natAbs≤2000000000000000000:=Nat.le_trans (Int.natAbs_ediv_le_natAbs _ _) (by omega)
   have b2 : q.natAbs / a.natAbs≤1000000000000000000:=Nat.le_trans (Nat.div_le_self _ _) (by omega)
   rw [← itx_nat] at hFV
   generalize p / (a.natAbs : Int)=u at *
   generalize q.natAbs / a.natAbs=v at *
   generalize a.natAbs=gg at *
   clear hg hg' d1 d2
   have hne : ((gg : Int) == 0)=false:=beq_eq_false_iff_ne.2 (by omega)
   have hne2 : ¬ gg=0:=by omega
   have hw1 : IntKind.i64.wrap u=u:=IntWalk.i64_in _ (by omega)
   have hw2 : IntKind.i64.wrap (v : Int)=v:=IntWalk.i64_in _ (by omega)
   have HF1:=Lib.hid (fun w hB=>formatInt_walk u (by omega) (by omega) w hB)
   have HF2:=Lib.hid (fun w hB=>formatInt_walk (v : Int) (by omega) (by omega) w hB)
   have e1 : (⟨(Lib.itoa u).toArray⟩ : ByteArray)=itx u:=rfl
   have e2 : (⟨(Lib.itoa (v : Int)).toArray⟩ : ByteArray)=itx (v : Int):=rfl
   rw [e1] at HF1
   rw [e2] at HF2
   generalize itx u=s1 at *
   generalize itx (v : Int)=s2 at *
   clear b1 b2 e1 e2
   have HI:=Lib.hid (hR.symm.trans hFV)
   clear hFV hR
   go_wp2
   go_region_held3 (fun w'=>Below w.heap.size w w')
    (first | (exact bn bel g1) | exact bel | exact below_drewN (ba (br w)) _ | exact bd (below_drewN (ba (br w)) _))
    (first | (go_at_call_of 228 (Value.int IntKind.i64 u); refine (HF1.out _ (hB.below (by assumption))).mono ?_; rintro e w1 ⟨rfl,g1⟩; have hz1 : w.heap.size<w1.heap.size:=hzs g1; have c1_0_0:=bcv g1 w.heap.size 0 (.string ⟨#[]⟩); have f1_0_0:=bfv g1 w.heap.size 0; have c1_0_1:=bcv g1 w.heap.size 1 (.string ⟨#[]⟩); have f1_0_1:=bfv g1 w.heap.size 1) | (go_at_call_of 228 (Value.int IntKind.i64 (v : Int)); refine (HF2.out _ (hB.below (by assumption))).mono ?_; rintro e w1 ⟨rfl,g1⟩; have hz1 : w.heap.size<w1.heap.size:=hzs g1; have c1_0_0:=bcv g1 w.heap.size 0 (.string ⟨#[]⟩); have f1_0_0:=bfv g1 w.heap.size 0; have c1_0_1:=bcv g1 w.heap.size 1 (.string ⟨#[]⟩); have f1_0_1:=bfv g1 w.heap.size 1))
   all_goals
    have hI:=HI.out
    go_wp2
    refine bodyPost_ret (v:=.agg #[.string s1,.string s2]) (by simp [results,Tryz.results208,go_sem, *]) rfl ⟨(by first | rfl | rw [hI]),bel⟩
  ·have hz : Hid (Nat.gcd b.natAbs (a.tmod b).natAbs=Nat.gcd p.natAbs q.natAbs):=Lib.hid ((gcd_tmod a b).trans hg.out)
   have hlt : (a.tmod b).natAbs<b.natAbs:=by rw [Int.natAbs_tmod]; exact Nat.mod_lt _ (by omega)
   have hbe : (b == 0)=false:=beq_eq_false_iff_ne.2 hb0
   have HB:=Lib.hid hb
   have HL:=Lib.hid hlt
   clear hlt hg ha hb
   go_wp2
   go_quiet (fail)
   go_wp2
   go_roundw
   case rel=>exact ⟨b,a.tmod b,_,rfl,rfl,hz,HB.out,by have:=HB.out; have:=HL.out; omega,by simp only [World.drewN,Nat.add_assoc]; rfl⟩
   case measure=>simp only [intOf]; exact HL.out
end Go.Proofs.YtopfedbhkfdjkaaGreatDoor


/- rational: plus, times. -/
namespace Go.Proofs.YtopfedbhkfdjkaaGreatDoor
open Go Go.RowKit
theorem little_any (q : Rat) : ∃ a b : Int,∀ w,Calls Tryz.prog 207 #[FV q] w fun e w'=>e=.returned (.tuple #[.int .i64 a,.int .i64 b,.bool (shortB q)])∧Below w.heap.size w w':=by
 cases h : shortB q
 ·exact ⟨0,0,fun w=>little_long q h w⟩
 ·exact ⟨_,_,fun w=>little_short q h w⟩
theorem short_bounds {q : Rat} (h : shortB q=true) : q.num.natAbs≤999999999∧1≤q.den∧q.den≤999999999:=by
 unfold shortB at h
 rw [Bool.and_eq_true,decide_eq_true_eq,decide_eq_true_eq] at h
 have h1:=dg_sgn q.num
 have h2 : q.num.natAbs<1000000000:=lt_of_len (by rw [← dec_toList,toList_length,dg_def]; omega)
 have h3 : q.den<1000000000:=lt_of_len (by rw [← dec_toList,toList_length]; exact h.2)
 have:=q.den_pos
 exact ⟨by omega,by omega,by omega⟩
theorem prod_bound {a b : Int} (ha : a.natAbs≤999999999) (hb : b.natAbs≤999999999) : -1000000000000000000≤a * b∧a * b≤1000000000000000000:=by
 have h : (a * b).natAbs≤999999999 * 999999999:=by
  rw [Int.natAbs_mul]
  exact Nat.mul_le_mul ha hb
 omega
theorem prod_pos {a b : Nat} (ha : 1≤a) (hb : 1≤b) : (1 : Int)≤(a : Int) * (b : Int):=by
 have:=Nat.mul_le_mul ha hb
 exact_mod_cast this
set_option maxHeartbeats 1000000 in
theorem rplus_short (x y : Rat) (hx : shortB x=true) (hy : shortB y=true) (w : World) (hB : Bw w) :
  Calls Tryz.prog 186 #[FV x,FV y] w fun e w'=>e=.returned (FV (x+y))∧Below w.heap.size w w':=by
 have b1:=short_bounds hx
 have b2:=short_bounds hy
 have H1:=Lib.hid (fun w=>little_short x hx w)
 have H2:=Lib.hid (fun w=>little_short y hy w)
 have p1:=prod_bound (a:=x.num) (b:=(y.den : Int)) (by omega) (by omega)
 have p2:=prod_bound (a:=y.num) (b:=(x.den : Int)) (by omega) (by omega)
 have p3:=prod_bound (a:=(x.den : Int)) (b:=(y.den : Int)) (by omega) (by omega)
 have p4:=prod_pos b1.2.1 b2.2.1
 have H3:=Lib.hid (fun w hB=>rof_walk (x.num * y.den+y.num * x.den) (x.den * y.den) (by omega) (by omega) p4 p3.2 w hB)
 rw [show ((x.den : Int) * (y.den : Int)).toNat=x.den * y.den by rw [← Int.natCast_mul]; rfl,← Rat.add_def'] at H3
 obtain ⟨s1,t1,e1⟩:=FV_shape x
 obtain ⟨s2,t2,e2⟩:=FV_shape y
 obtain ⟨s3,t3,e3⟩:=FV_shape (x+y)
 rw [e1] at H1 ⊢
 rw [e2] at H2 ⊢
 rw [e3] at H3 ⊢
 clear e1 e2 e3 hx hy b1 b2
 generalize x.num=p at *
 generalize y.num=r at *
 generalize (x.den : Int)=q at *
 generalize (y.den : Int)=s at *
 obtain ⟨p1a,p1b⟩:=p1
 obtain ⟨p2a,p2b⟩:=p2
 obtain ⟨p3a,p3b⟩:=p3
 go_enter Tryz.func186,Tryz.ntmps186
 go_wp2_with fail
 refine (H1.out _).mono ?_
 rintro e w1 ⟨rfl,g1⟩
 have hz1 : w.heap.size+2<w1.heap.size:=hzs g1
 have hz1_0 : w.heap.size<w1.heap.size:=by omega
 have hz1_1 : w.heap.size+1<w1.heap.size:=by omega
 have B1:=bn (w:=w) bel g1
 have c1_1_0:=bcv g1 (w.heap.size+1) 0 (.string s2)
 have f1_1_0:=bfv g1 (w.heap.size+1) 0
 have c1_1_1:=bcv g1 (w.heap.size+1) 1 (.string t2)
 have f1_1_1:=bfv g1 (w.heap.size+1) 1
 have c1_2_0:=bcv g1 (w.heap.size+1+1) 0 (.string ⟨#[]⟩)
 have f1_2_0:=bfv g1 (w.heap.size+1+1) 0
 have c1_2_1:=bcv g1 (w.heap.size+1+1) 1 (.string ⟨#[]⟩)
 have f1_2_1:=bfv g1 (w.heap.size+1+1) 1
 clear g1
 go_wp2_with fail
 refine (H2.out _).mono ?_
 rintro e w2 ⟨rfl,g2⟩
 have hz2 : w.heap.size+2<w2.heap.size:=hzs g2
 have hz2_0 : w.heap.size<w2.heap.size:=by omega
 have hz2_1 : w.heap.size+1<w2.heap.size:=by omega
 have B2:=bn (w:=w) bel g2
 have c2_2_0:=bcv g2 (w.heap.size+1+1) 0 (.string ⟨#[]⟩)
 have f2_2_0:=bfv g2 (w.heap.size+1+1) 0
 have c2_2_1:=bcv g2 (w.heap.size+1+1) 1 (.string ⟨#[]⟩)
 have f2_2_1:=bfv g2 (w.heap.size+1+1) 1
 clear g2
 go_wp2_with fail
 refine (H3.out _ (hB.below bel)).mono ?_
 rintro e w3 ⟨rfl,g3⟩
 have hz3 : w.heap.size+2<w3.heap.size:=hzs g3
 have hz3_0 : w.heap.size<w3.heap.size:=by omega
 have hz3_1 : w.heap.size+1<w3.heap.size:=by omega
 have B3:=bn (w:=w) bel g3
 have c3_2_0:=bcv g3 (w.heap.size+1+1) 0 (.string ⟨#[]⟩)
 have f3_2_0:=bfv g3 (w.heap.size+1+1) 0
 have c3_2_1:=bcv g3 (w.heap.size+1+1) 1 (.string ⟨#[]⟩)
 have f3_2_1:=bfv g3 (w.heap.size+1+1) 1
 clear g3
 go_wp2
 refine bodyPost_ret (v:=.agg #[.string s3,.string t3]) (by simp [results,Tryz.results186,go_sem, *]) rfl ⟨(by first | rfl | rw [hI]),bel⟩
set_option maxHeartbeats 1000000 in
theorem rtimes_short (x y : Rat) (hx : shortB x=true) (hy : shortB y=true) (w : World) (hB : Bw w) :
  Calls Tryz.prog 187 #[FV x,FV y] w fun e w'=>e=.returned (FV (x * y))∧Below w.heap.size w w':=by
 have b1:=short_bounds hx
 have b2:=short_bounds hy
 have H1:=Lib.hid (fun w=>little_short x hx w)
 have H2:=Lib.hid (fun w=>little_short y hy w)
 have p1:=prod_bound (a:=x.num) (b:=y.num) (by omega) (by omega)
 have p3:=prod_bound (a:=(x.den : Int)) (b:=(y.den : Int)) (by omega) (by omega)
 have p4:=prod_pos b1.2.1 b2.2.1
 have H3:=Lib.hid (fun w hB=>rof_walk (x.num * y.num) (x.den * y.den) (by omega) (by omega) p4 p3.2 w hB)
 rw [show ((x.den : Int) * (y.den : Int)).toNat=x.den * y.den by rw [← Int.natCast_mul]; rfl,← Rat.mul_def'] at H3
 obtain ⟨s1,t1,e1⟩:=FV_shape x
 obtain ⟨s2,t2,e2⟩:=FV_shape y
 obtain ⟨s3,t3,e3⟩:=FV_shape (x * y)
 rw [e1] at H1 ⊢
 rw [e2] at H2 ⊢
 rw [e3] at H3 ⊢
 clear e1 e2 e3 hx hy b1 b2
 generalize x.num=p at *
 generalize y.num=r at *
 generalize (x.den : Int)=q at *
 generalize (y.den : Int)=s at *
 obtain ⟨p1a,p1b⟩:=p1
 obtain ⟨p3a,p3b⟩:=p3
 go_enter Tryz.func187,Tryz.ntmps187
 go_wp2_with fail
 refine (H1.out _).mono ?_
 rintro e w1 ⟨rfl,g1⟩
 have hz1 : w.heap.size+2<w1.heap.size:=hzs g1
 have hz1_0 : w.heap.size<w1.heap.size:=by omega
 have hz1_1 : w.heap.size+1<w1.heap.size:=by omega
 have B1:=bn (w:=w) bel g1
 have c1_1_0:=bcv g1 (w.heap.size+1) 0 (.string s2)
 have f1_1_0:=bfv g1 (w.heap.size+1) 0
 have c1_1_1:=bcv g1 (w.heap.size+1) 1 (.string t2)
 have f1_1_1:=bfv g1 (w.heap.size+1) 1
 have c1_2_0:=bcv g1 (w.heap.size+1+1) 0 (.string ⟨#[]⟩)
 have f1_2_0:=bfv g1 (w.heap.size+1+1) 0
 have c1_2_1:=bcv g1 (w.heap.size+1+1) 1 (.string ⟨#[]⟩)
 have f1_2_1:=bfv g1 (w.heap.size+1+1) 1
 clear g1
 go_wp2_with fail
 refine (H2.out _).mono ?_
 rintro e w2 ⟨rfl,g2⟩
 have hz2 : w.heap.size+2<w2.heap.size:=hzs g2
 have hz2_0 : w.heap.size<w2.heap.size:=by omega
 have hz2_1 : w.heap.size+1<w2.heap.size:=by omega
 have B2:=bn (w:=w) bel g2
 have c2_2_0:=bcv g2 (w.heap.size+1+1) 0 (.string ⟨#[]⟩)
 have f2_2_0:=bfv g2 (w.heap.size+1+1) 0
 have c2_2_1:=bcv g2 (w.heap.size+1+1) 1 (.string ⟨#[]⟩)
 have f2_2_1:=bfv g2 (w.heap.size+1+1) 1
 clear g2
 go_wp2_with fail
 refine (H3.out _ (hB.below bel)).mono ?_
 rintro e w3 ⟨rfl,g3⟩
 have hz3 : w.heap.size+2<w3.heap.size:=hzs g3
 have hz3_0 : w.heap.size<w3.heap.size:=by omega
 have hz3_1 : w.heap.size+1<w3.heap.size:=by omega
 have B3:=bn (w:=w) bel g3
 have c3_2_0:=bcv g3 (w.heap.size+1+1) 0 (.string ⟨#[]⟩)
 have f3_2_0:=bfv g3 (w.heap.size+1+1) 0
 have c3_2_1:=bcv g3 (w.heap.size+1+1) 1 (.string ⟨#[]⟩)
 have f3_2_1:=bfv g3 (w.heap.size+1+1) 1
 clear g3
 go_wp2
 refine bodyPost_ret (v:=.agg #[.string s3,.string t3]) (by simp [results,Tryz.results187,go_sem, *]) rfl ⟨(by first | rfl | rw [hI]),bel⟩
set_option maxHeartbeats 1000000 in
theorem rplus_long (x y : Rat) (hxy : (shortB x && shortB y)=false) (hx : rz x≤20000000) (hy : rz y≤20000000) (w : World) (hB : Bw w) :
  Calls Tryz.prog 186 #[FV x,FV y] w fun e w'=>e=.returned (FV (x+y))∧Below w.heap.size w w':=by
 obtain ⟨a1,a2,h1⟩:=little_any x
 obtain ⟨a3,a4,h2⟩:=little_any y
 have H1:=Lib.hid h1
 have H2:=Lib.hid h2
 clear h1 h2
 have n1:=rz_num x
 have n2:=rz_num y
 have n3:=rz_den x
 have n4:=rz_den y
 have HA:=Lib.hid (fun w hB=>iMul_walk x.num (y.den : Int) (by omega) (by rw [Int.natAbs_natCast]; omega) w hB)
 have HC:=Lib.hid (fun w hB=>iMul_walk y.num (x.den : Int) (by omega) (by rw [Int.natAbs_natCast]; omega) w hB)
 rw [itx_nat] at HA HC
 have m1:=dg_mul x.num.natAbs y.den
 have m2:=dg_mul y.num.natAbs x.den
 have m3:=dg_mul x.den y.den
 have m4:=dg_add (x.num.natAbs * y.den) (y.num.natAbs * x.den)
 have k1 : dg (x.num * y.den).natAbs≤40000000:=by rw [Int.natAbs_mul,Int.natAbs_natCast]; omega
 have k2 : dg (y.num * x.den).natAbs≤40000000:=by rw [Int.natAbs_mul,Int.natAbs_natCast]; omega
 have k3 : dg (x.num * y.den+y.num * x.den).natAbs≤40000001:=by
  have:=dg_mono (Int.natAbs_add_le (x.num * y.den) (y.num * x.den))
  rw [Int.natAbs_mul,Int.natAbs_mul,Int.natAbs_natCast,Int.natAbs_natCast] at this
  omega
 have HD:=Lib.hid (fun w hB=>iAdd_walk (x.num * y.den) (y.num * x.den) (by omega) (by omega) w hB)
 have HM:=Lib.hid (fun w hB=>natMul_walk x.den y.den (by have:=dg_def x.den; omega) (by have:=dg_def y.den; omega) (by have:=wds_le_dg (x.den * y.den); omega) w hB)
 have HL:=Lib.hid (fun w hB=>lowest_walk (x.num * y.den+y.num * x.den) (x.den * y.den) (Nat.mul_ne_zero x.den_nz y.den_nz) (by omega) (by omega) w hB)
 rw [← Rat.add_def'] at HL
 clear m1 m2 m3 m4 k1 k2 k3
 obtain ⟨s3,t3,e3⟩:=FV_shape (x+y)
 rw [FV_eq x] at H1 ⊢
 rw [FV_eq y] at H2 ⊢
 rw [e3] at HL ⊢
 clear e3 hx hy n1 n2 n3 n4
 generalize itx (x.num * y.den+y.num * x.den)=u3 at *
 generalize itx (x.num * y.den)=u1 at *
 generalize itx (y.num * x.den)=u2 at *
 generalize dec (x.den * y.den)=u4 at *
 generalize itx x.num=s1 at *
 generalize itx y.num=s2 at *
 generalize dec x.den=t1 at *
 generalize dec y.den=t2 at *
 generalize shortB x=bx at *
 generalize shortB y=by' at *
 cases bx
 case' true =>
  cases by'
  case true=>cases hxy
 all_goals
  clear hxy
  go_enter Tryz.func186,Tryz.ntmps186
  go_wp2_with fail
  refine (H1.out _).mono ?_
  rintro e w1 ⟨rfl,g1⟩
  have hz1 : w.heap.size+2<w1.heap.size:=hzs g1
  have hz1_0 : w.heap.size<w1.heap.size:=by omega
  have hz1_1 : w.heap.size+1<w1.heap.size:=by omega
  have B1:=bn (w:=w) bel g1
  have c1_0_0:=bcv g1 w.heap.size 0 (.string s1)
  have f1_0_0:=bfv g1 w.heap.size 0
  have c1_0_1:=bcv g1 w.heap.size 1 (.string t1)
  have f1_0_1:=bfv g1 w.heap.size 1
  have c1_1_0:=bcv g1 (w.heap.size+1) 0 (.string s2)
  have f1_1_0:=bfv g1 (w.heap.size+1) 0
  have c1_1_1:=bcv g1 (w.heap.size+1) 1 (.string t2)
  have f1_1_1:=bfv g1 (w.heap.size+1) 1
  have c1_2_0:=bcv g1 (w.heap.size+1+1) 0 (.string ⟨#[]⟩)
  have f1_2_0:=bfv g1 (w.heap.size+1+1) 0
  have c1_2_1:=bcv g1 (w.heap.size+1+1) 1 (.string ⟨#[]⟩)
  have f1_2_1:=bfv g1 (w.heap.size+1+1) 1
  clear g1
  go_wp2_with fail
  refine (H2.out _).mono ?_
  rintro e w2 ⟨rfl,g2⟩
  have hz2 : w.heap.size+2<w2.heap.size:=hzs g2
  have hz2_0 : w.heap.size<w2.heap.size:=by omega
  have hz2_1 : w.heap.size+1<w2.heap.size:=by omega
  have B2:=bn (w:=w) bel g2
  have c2_0_0:=bcv g2 w.heap.size 0 (.string s1)
  have f2_0_0:=bfv g2 w.heap.size 0
  have c2_0_1:=bcv g2 w.heap.size 1 (.string t1)
  have f2_0_1:=bfv g2 w.heap.size 1
  have c2_1_0:=bcv g2 (w.heap.size+1) 0 (.string s2)
  have f2_1_0:=bfv g2 (w.heap.size+1) 0
  have c2_1_1:=bcv g2 (w.heap.size+1) 1 (.string t2)
  have f2_1_1:=bfv g2 (w.heap.size+1) 1
  have c2_2_0:=bcv g2 (w.heap.size+1+1) 0 (.string ⟨#[]⟩)
  have f2_2_0:=bfv g2 (w.heap.size+1+1) 0
  have c2_2_1:=bcv g2 (w.heap.size+1+1) 1 (.string ⟨#[]⟩)
  have f2_2_1:=bfv g2 (w.heap.size+1+1) 1
  clear g2
  go_wp2_with fail
  refine (HA.out _ (hB.below bel)).mono ?_
  rintro e w3 ⟨rfl,g3⟩
  have hz3 : w.heap.size+2<w3.heap.size:=hzs g3
  have hz3_0 : w.heap.size<w3.heap.size:=by omega
  have hz3_1 : w.heap.size+1<w3.heap.size:=by omega
  have B3:=bn (w:=w) bel g3
  have c3_0_0:=bcv g3 w.heap.size 0 (.string s1)
  have f3_0_0:=bfv g3 w.heap.size 0
  have c3_0_1:=bcv g3 w.heap.size 1 (.string t1)
  have f3_0_1:=bfv g3 w.heap.size 1
  have c3_1_0:=bcv g3 (w.heap.size+1) 0 (.string s2)
  have f3_1_0:=bfv g3 (w.heap.size+1) 0
  have c3_1_1:=bcv g3 (w.heap.size+1) 1 (.string t2)
  have f3_1_1:=bfv g3 (w.heap.size+1) 1
  have c3_2_0:=bcv g3 (w.heap.size+1+1) 0 (.string ⟨#[]⟩)
  have f3_2_0:=bfv g3 (w.heap.size+1+1) 0
  have c3_2_1:=bcv g3 (w.heap.size+1+1) 1 (.string ⟨#[]⟩)
  have f3_2_1:=bfv g3 (w.heap.size+1+1) 1
  clear g3
  go_wp2_with fail
  refine (HC.out _ (hB.below bel)).mono ?_
  rintro e w4 ⟨rfl,g4⟩
  have hz4 : w.heap.size+2<w4.heap.size:=hzs g4
  have hz4_0 : w.heap.size<w4.heap.size:=by omega
  have hz4_1 : w.heap.size+1<w4.heap.size:=by omega
  have B4:=bn (w:=w) bel g4
  have c4_0_0:=bcv g4 w.heap.size 0 (.string s1)
  have f4_0_0:=bfv g4 w.heap.size 0
  have c4_0_1:=bcv g4 w.heap.size 1 (.string t1)
  have f4_0_1:=bfv g4 w.heap.size 1
  have c4_1_0:=bcv g4 (w.heap.size+1) 0 (.string s2)
  have f4_1_0:=bfv g4 (w.heap.size+1) 0
  have c4_1_1:=bcv g4 (w.heap.size+1) 1 (.string t2)
  have f4_1_1:=bfv g4 (w.heap.size+1) 1
  have c4_2_0:=bcv g4 (w.heap.size+1+1) 0 (.string ⟨#[]⟩)
  have f4_2_0:=bfv g4 (w.heap.size+1+1) 0
  have c4_2_1:=bcv g4 (w.heap.size+1+1) 1 (.string ⟨#[]⟩)
  have f4_2_1:=bfv g4 (w.heap.size+1+1) 1
  clear g4
  go_wp2_with fail
  refine (HD.out _ (hB.below bel)).mono ?_
  rintro e w5 ⟨rfl,g5⟩
  have hz5 : w.heap.size+2<w5.heap.size:=hzs g5
  have hz5_0 : w.heap.size<w5.heap.size:=by omega
  have hz5_1 : w.heap.size+1<w5.heap.size:=by omega
  have B5:=bn (w:=w) bel g5
  have c5_0_0:=bcv g5 w.heap.size 0 (.string s1)
  have f5_0_0:=bfv g5 w.heap.size 0
  have c5_0_1:=bcv g5 w.heap.size 1 (.string t1)
  have f5_0_1:=bfv g5 w.heap.size 1
  have c5_1_0:=bcv g5 (w.heap.size+1) 0 (.string s2)
  have f5_1_0:=bfv g5 (w.heap.size+1) 0
  have c5_1_1:=bcv g5 (w.heap.size+1) 1 (.string t2)
  have f5_1_1:=bfv g5 (w.heap.size+1) 1
  have c5_2_0:=bcv g5 (w.heap.size+1+1) 0 (.string ⟨#[]⟩)
  have f5_2_0:=bfv g5 (w.heap.size+1+1) 0
  have c5_2_1:=bcv g5 (w.heap.size+1+1) 1 (.string ⟨#[]⟩)
  have f5_2_1:=bfv g5 (w.heap.size+1+1) 1
  clear g5
  go_wp2_with fail
  refine (HM.out _ (hB.below bel)).mono ?_
  rintro e w6 ⟨rfl,g6⟩
  have hz6 : w.heap.size+2<w6.heap.size:=hzs g6
  have hz6_0 : w.heap.size<w6.heap.size:=by omega
  have hz6_1 : w.heap.size+1<w6.heap.size:=by omega
  have B6:=bn (w:=w) bel g6
  have c6_0_0:=bcv g6 w.heap.size 0 (.string s1)
  have f6_0_0:=bfv g6 w.heap.size 0
  have c6_0_1:=bcv g6 w.heap.size 1 (.string t1)
  have f6_0_1:=bfv g6 w.heap.size 1
  have c6_1_0:=bcv g6 (w.heap.size+1) 0 (.string s2)
  have f6_1_0:=bfv g6 (w.heap.size+1) 0
  have c6_1_1:=bcv g6 (w.heap.size+1) 1 (.string t2)
  have f6_1_1:=bfv g6 (w.heap.size+1) 1
  have c6_2_0:=bcv g6 (w.heap.size+1+1) 0 (.string ⟨#[]⟩)
  have f6_2_0:=bfv g6 (w.heap.size+1+1) 0
  have c6_2_1:=bcv g6 (w.heap.size+1+1) 1 (.string ⟨#[]⟩)
  have f6_2_1:=bfv g6 (w.heap.size+1+1) 1
  clear g6
  go_wp2_with fail
  refine (HL.out _ (hB.below bel)).mono ?_
  rintro e w7 ⟨rfl,g7⟩
  have hz7 : w.heap.size+2<w7.heap.size:=hzs g7
  have hz7_0 : w.heap.size<w7.heap.size:=by omega
  have hz7_1 : w.heap.size+1<w7.heap.size:=by omega
  have B7:=bn (w:=w) bel g7
  have c7_0_0:=bcv g7 w.heap.size 0 (.string s1)
  have f7_0_0:=bfv g7 w.heap.size 0
  have c7_0_1:=bcv g7 w.heap.size 1 (.string t1)
  have f7_0_1:=bfv g7 w.heap.size 1
  have c7_1_0:=bcv g7 (w.heap.size+1) 0 (.string s2)
  have f7_1_0:=bfv g7 (w.heap.size+1) 0
  have c7_1_1:=bcv g7 (w.heap.size+1) 1 (.string t2)
  have f7_1_1:=bfv g7 (w.heap.size+1) 1
  have c7_2_0:=bcv g7 (w.heap.size+1+1) 0 (.string ⟨#[]⟩)
  have f7_2_0:=bfv g7 (w.heap.size+1+1) 0
  have c7_2_1:=bcv g7 (w.heap.size+1+1) 1 (.string ⟨#[]⟩)
  have f7_2_1:=bfv g7 (w.heap.size+1+1) 1
  clear g7
  go_wp2
  refine bodyPost_ret (v:=.agg #[.string s3,.string t3]) (by simp [results,Tryz.results186,go_sem, *]) rfl ⟨(by first | rfl | rw [hI]),bel⟩
set_option maxHeartbeats 1000000 in
theorem rtimes_long (x y : Rat) (hxy : (shortB x && shortB y)=false) (hx : rz x≤20000000) (hy : rz y≤20000000) (w : World) (hB : Bw w) :
  Calls Tryz.prog 187 #[FV x,FV y] w fun e w'=>e=.returned (FV (x * y))∧Below w.heap.size w w':=by
 obtain ⟨a1,a2,h1⟩:=little_any x
 obtain ⟨a3,a4,h2⟩:=little_any y
 have H1:=Lib.hid h1
 have H2:=Lib.hid h2
 clear h1 h2
 have n1:=rz_num x
 have n2:=rz_num y
 have n3:=rz_den x
 have n4:=rz_den y
 have HA:=Lib.hid (fun w hB=>iMul_walk x.num y.num (by omega) (by omega) w hB)
 have m1:=dg_mul x.num.natAbs y.num.natAbs
 have m3:=dg_mul x.den y.den
 have k1 : dg (x.num * y.num).natAbs≤40000000:=by rw [Int.natAbs_mul]; omega
 have HM:=Lib.hid (fun w hB=>natMul_walk x.den y.den (by have:=dg_def x.den; omega) (by have:=dg_def y.den; omega) (by have:=wds_le_dg (x.den * y.den); omega) w hB)
 have HL:=Lib.hid (fun w hB=>lowest_walk (x.num * y.num) (x.den * y.den) (Nat.mul_ne_zero x.den_nz y.den_nz) (by omega) (by omega) w hB)
 rw [← Rat.mul_def'] at HL
 clear m1 m3 k1
 obtain ⟨s3,t3,e3⟩:=FV_shape (x * y)
 rw [FV_eq x] at H1 ⊢
 rw [FV_eq y] at H2 ⊢
 rw [e3] at HL ⊢
 clear e3 hx hy n1 n2 n3 n4
 generalize itx (x.num * y.num)=u1 at *
 generalize dec (x.den * y.den)=u4 at *
 generalize itx x.num=s1 at *
 generalize itx y.num=s2 at *
 generalize dec x.den=t1 at *
 generalize dec y.den=t2 at *
 generalize shortB x=bx at *
 generalize shortB y=by' at *
 cases bx
 case' true =>
  cases by'
  case true=>cases hxy
 all_goals
  clear hxy
  go_enter Tryz.func187,Tryz.ntmps187
  go_wp2_with fail
  refine (H1.out _).mono ?_
  rintro e w1 ⟨rfl,g1⟩
  have hz1 : w.heap.size+2<w1.heap.size:=hzs g1
  have hz1_0 : w.heap.size<w1.heap.size:=by omega
  have hz1_1 : w.heap.size+1<w1.heap.size:=by omega
  have B1:=bn (w:=w) bel g1
  have c1_0_0:=bcv g1 w.heap.size 0 (.string s1)
  have f1_0_0:=bfv g1 w.heap.size 0
  have c1_0_1:=bcv g1 w.heap.size 1 (.string t1)
  have f1_0_1:=bfv g1 w.heap.size 1
  have c1_1_0:=bcv g1 (w.heap.size+1) 0 (.string s2)
  have f1_1_0:=bfv g1 (w.heap.size+1) 0
  have c1_1_1:=bcv g1 (w.heap.size+1) 1 (.string t2)
  have f1_1_1:=bfv g1 (w.heap.size+1) 1
  have c1_2_0:=bcv g1 (w.heap.size+1+1) 0 (.string ⟨#[]⟩)
  have f1_2_0:=bfv g1 (w.heap.size+1+1) 0
  have c1_2_1:=bcv g1 (w.heap.size+1+1) 1 (.string ⟨#[]⟩)
  have f1_2_1:=bfv g1 (w.heap.size+1+1) 1
  clear g1
  go_wp2_with fail
  refine (H2.out _).mono ?_
  rintro e w2 ⟨rfl,g2⟩
  have hz2 : w.heap.size+2<w2.heap.size:=hzs g2
  have hz2_0 : w.heap.size<w2.heap.size:=by omega
  have hz2_1 : w.heap.size+1<w2.heap.size:=by omega
  have B2:=bn (w:=w) bel g2
  have c2_0_0:=bcv g2 w.heap.size 0 (.string s1)
  have f2_0_0:=bfv g2 w.heap.size 0
  have c2_0_1:=bcv g2 w.heap.size 1 (.string t1)
  have f2_0_1:=bfv g2 w.heap.size 1
  have c2_1_0:=bcv g2 (w.heap.size+1) 0 (.string s2)
  have f2_1_0:=bfv g2 (w.heap.size+1) 0
  have c2_1_1:=bcv g2 (w.heap.size+1) 1 (.string t2)
  have f2_1_1:=bfv g2 (w.heap.size+1) 1
  have c2_2_0:=bcv g2 (w.heap.size+1+1) 0 (.string ⟨#[]⟩)
  have f2_2_0:=bfv g2 (w.heap.size+1+1) 0
  have c2_2_1:=bcv g2 (w.heap.size+1+1) 1 (.string ⟨#[]⟩)
  have f2_2_1:=bfv g2 (w.heap.size+1+1) 1
  clear g2
  go_wp2_with fail
  refine (HA.out _ (hB.below bel)).mono ?_
  rintro e w3 ⟨rfl,g3⟩
  have hz3 : w.heap.size+2<w3.heap.size:=hzs g3
  have hz3_0 : w.heap.size<w3.heap.size:=by omega
  have hz3_1 : w.heap.size+1<w3.heap.size:=by omega
  have B3:=bn (w:=w) bel g3
  have c3_0_0:=bcv g3 w.heap.size 0 (.string s1)
  have f3_0_0:=bfv g3 w.heap.size 0
  have c3_0_1:=bcv g3 w.heap.size 1 (.string t1)
  have f3_0_1:=bfv g3 w.heap.size 1
  have c3_1_0:=bcv g3 (w.heap.size+1) 0 (.string s2)
  have f3_1_0:=bfv g3 (w.heap.size+1) 0
  have c3_1_1:=bcv g3 (w.heap.size+1) 1 (.string t2)
  have f3_1_1:=bfv g3 (w.heap.size+1) 1
  have c3_2_0:=bcv g3 (w.heap.size+1+1) 0 (.string ⟨#[]⟩)
  have f3_2_0:=bfv g3 (w.heap.size+1+1) 0
  have c3_2_1:=bcv g3 (w.heap.size+1+1) 1 (.string ⟨#[]⟩)
  have f3_2_1:=bfv g3 (w.heap.size+1+1) 1
  clear g3
  go_wp2_with fail
  refine (HM.out _ (hB.below bel)).mono ?_
  rintro e w4 ⟨rfl,g4⟩
  have hz4 : w.heap.size+2<w4.heap.size:=hzs g4
  have hz4_0 : w.heap.size<w4.heap.size:=by omega
  have hz4_1 : w.heap.size+1<w4.heap.size:=by omega
  have B4:=bn (w:=w) bel g4
  have c4_0_0:=bcv g4 w.heap.size 0 (.string s1)
  have f4_0_0:=bfv g4 w.heap.size 0
  have c4_0_1:=bcv g4 w.heap.size 1 (.string t1)
  have f4_0_1:=bfv g4 w.heap.size 1
  have c4_1_0:=bcv g4 (w.heap.size+1) 0 (.string s2)
  have f4_1_0:=bfv g4 (w.heap.size+1) 0
  have c4_1_1:=bcv g4 (w.heap.size+1) 1 (.string t2)
  have f4_1_1:=bfv g4 (w.heap.size+1) 1
  have c4_2_0:=bcv g4 (w.heap.size+1+1) 0 (.string ⟨#[]⟩)
  have f4_2_0:=bfv g4 (w.heap.size+1+1) 0
  have c4_2_1:=bcv g4 (w.heap.size+1+1) 1 (.string ⟨#[]⟩)
  have f4_2_1:=bfv g4 (w.heap.size+1+1) 1
  clear g4
  go_wp2_with fail
  refine (HL.out _ (hB.below bel)).mono ?_
  rintro e w5 ⟨rfl,g5⟩
  have hz5 : w.heap.size+2<w5.heap.size:=hzs g5
  have hz5_0 : w.heap.size<w5.heap.size:=by omega
  have hz5_1 : w.heap.size+1<w5.heap.size:=by omega
  have B5:=bn (w:=w) bel g5
  have c5_0_0:=bcv g5 w.heap.size 0 (.string s1)
  have f5_0_0:=bfv g5 w.heap.size 0
  have c5_0_1:=bcv g5 w.heap.size 1 (.string t1)
  have f5_0_1:=bfv g5 w.heap.size 1
  have c5_1_0:=bcv g5 (w.heap.size+1) 0 (.string s2)
  have f5_1_0:=bfv g5 (w.heap.size+1) 0
  have c5_1_1:=bcv g5 (w.heap.size+1) 1 (.string t2)
  have f5_1_1:=bfv g5 (w.heap.size+1) 1
  have c5_2_0:=bcv g5 (w.heap.size+1+1) 0 (.string ⟨#[]⟩)
  have f5_2_0:=bfv g5 (w.heap.size+1+1) 0
  have c5_2_1:=bcv g5 (w.heap.size+1+1) 1 (.string ⟨#[]⟩)
  have f5_2_1:=bfv g5 (w.heap.size+1+1) 1
  clear g5
  go_wp2
  refine bodyPost_ret (v:=.agg #[.string s3,.string t3]) (by simp [results,Tryz.results187,go_sem, *]) rfl ⟨(by first | rfl | rw [hI]),bel⟩
theorem rplus_walk (x y : Rat) (hx : rz x≤20000000) (hy : rz y≤20000000) (w : World) (hB : Bw w) :
  Calls Tryz.prog 186 #[FV x,FV y] w fun e w'=>e=.returned (FV (x+y))∧Below w.heap.size w w':=by
 cases h : (shortB x && shortB y)
 ·exact rplus_long x y h hx hy w hB
 ·rw [Bool.and_eq_true] at h
  exact rplus_short x y h.1 h.2 w hB
theorem rtimes_walk (x y : Rat) (hx : rz x≤20000000) (hy : rz y≤20000000) (w : World) (hB : Bw w) :
  Calls Tryz.prog 187 #[FV x,FV y] w fun e w'=>e=.returned (FV (x * y))∧Below w.heap.size w w':=by
 cases h : (shortB x && shortB y)
 ·exact rtimes_long x y h hx hy w hB
 ·rw [Bool.and_eq_true] at h
  exact rtimes_short x y h.1 h.2 w hB
end Go.Proofs.YtopfedbhkfdjkaaGreatDoor


/- rational: read, Valid. -/
namespace Go.Proofs.YtopfedbhkfdjkaaGreatDoor
open Go Go.RowKit
theorem rcut_walk (s : ByteArray) (hs : s.size≤100000000) (w : World) (hB : Bw w) :
  Calls Tryz.prog 154 #[.string s,.string ⟨#[47]⟩] w fun e w'=>e=.returned (.tuple #[.string ⟨(Lib.cut s.data.toList [47]).1.toArray⟩,.string ⟨(Lib.cut s.data.toList [47]).2.1.toArray⟩,.bool (Lib.cut s.data.toList [47]).2.2])∧Below w.heap.size w w':=by
 obtain ⟨m,hm⟩:=hB.len
 refine (Tryz.strings_Cut s ⟨#[47]⟩ m w (by omega) hm).mono ?_
 rintro e w' ⟨rfl,n,rfl⟩
 exact ⟨rfl,below_drewN (Below.refl _ _) n⟩
set_option maxHeartbeats 1000000 in
theorem rread_whole (s p d : ByteArray) (r : Bool) (w : World) (hB : Bw w)
  (hc : ∀ w,Bw w→Calls Tryz.prog 154 #[.string s,.string ⟨#[47]⟩] w fun e w'=>e=.returned (.tuple #[.string p,.string d,.bool false])∧Below w.heap.size w w')
  (hv : ∀ w,Calls Tryz.prog 155 #[.string p] w fun e w'=>e=.returned (.bool r)∧Below w.heap.size w w') :
  Calls Tryz.prog 115 #[.string s] w fun e w'=>e=.returned (.tuple #[.agg #[.string p,.string ⟨#[49]⟩],.bool r])∧Below w.heap.size w w':=by
 have HC:=Lib.hid hc
 have HV:=Lib.hid hv
 clear hc hv
 go_enter Tryz.func115,Tryz.ntmps115
 go_wp2_with fail
 refine (HC.out _ (hB.below bel)).mono ?_
 rintro e w1 ⟨rfl,g1⟩
 have hz1 : w.heap.size<w1.heap.size:=hzs g1
 have B1:=bn (w:=w) bel g1
 have c1_0_0:=bcv g1 w.heap.size 0 (.string ⟨#[]⟩)
 have f1_0_0:=bfv g1 w.heap.size 0
 have c1_0_1:=bcv g1 w.heap.size 1 (.string ⟨#[]⟩)
 have f1_0_1:=bfv g1 w.heap.size 1
 clear g1
 go_wp2_with fail
 refine (HV.out _).mono ?_
 rintro e w2 ⟨rfl,g2⟩
 have hz2 : w.heap.size<w2.heap.size:=hzs g2
 have B2:=bn (w:=w) bel g2
 have c2_0_0:=bcv g2 w.heap.size 0 (.string ⟨#[]⟩)
 have f2_0_0:=bfv g2 w.heap.size 0
 have c2_0_1:=bcv g2 w.heap.size 1 (.string ⟨#[]⟩)
 have f2_0_1:=bfv g2 w.heap.size 1
 clear g2
 go_wp2
 refine bodyPost_ret (v:=.tuple #[.agg #[.string p,.string ⟨#[49]⟩],.bool r]) (by simp [results,Tryz.results115,go_sem, *]) rfl ⟨(by first | rfl | rw [hI]),bel⟩
set_option maxHeartbeats 1000000 in
theorem rread_noint (s p d g : ByteArray) (w : World) (hB : Bw w)
  (hc : ∀ w,Bw w→Calls Tryz.prog 154 #[.string s,.string ⟨#[47]⟩] w fun e w'=>e=.returned (.tuple #[.string p,.string d,.bool true])∧Below w.heap.size w w')
  (hv : ∀ w,Calls Tryz.prog 155 #[.string p] w fun e w'=>e=.returned (.bool false)∧Below w.heap.size w w') :
  Calls Tryz.prog 115 #[.string s] w fun e w'=>e=.returned (.tuple #[.agg #[.string p,.string d],.bool false])∧Below w.heap.size w w':=by
 have HC:=Lib.hid hc
 have HV:=Lib.hid hv
 clear hc hv
 go_enter Tryz.func115,Tryz.ntmps115
 go_wp2_with fail
 refine (HC.out _ (hB.below bel)).mono ?_
 rintro e w1 ⟨rfl,g1⟩
 have hz1 : w.heap.size<w1.heap.size:=hzs g1
 have B1:=bn (w:=w) bel g1
 have c1_0_0:=bcv g1 w.heap.size 0 (.string ⟨#[]⟩)
 have f1_0_0:=bfv g1 w.heap.size 0
 have c1_0_1:=bcv g1 w.heap.size 1 (.string ⟨#[]⟩)
 have f1_0_1:=bfv g1 w.heap.size 1
 clear g1
 go_wp2_with fail
 refine (HV.out _).mono ?_
 rintro e w2 ⟨rfl,g2⟩
 have hz2 : w.heap.size<w2.heap.size:=hzs g2
 have B2:=bn (w:=w) bel g2
 have c2_0_0:=bcv g2 w.heap.size 0 (.string ⟨#[]⟩)
 have f2_0_0:=bfv g2 w.heap.size 0
 have c2_0_1:=bcv g2 w.heap.size 1 (.string ⟨#[]⟩)
 have f2_0_1:=bfv g2 w.heap.size 1
 clear g2
 go_wp2
 refine bodyPost_ret (v:=.tuple #[.agg #[.string p,.string d],.bool false]) (by simp [results,Tryz.results115,go_sem, *]) rfl ⟨(by first | rfl | rw [hI]),bel⟩
set_option maxHeartbeats 1000000 in
theorem rread_zero (s p d g : ByteArray) (w : World) (hB : Bw w)
  (hc : ∀ w,Bw w→Calls Tryz.prog 154 #[.string s,.string ⟨#[47]⟩] w fun e w'=>e=.returned (.tuple #[.string p,.string d,.bool true])∧Below w.heap.size w w')
  (hv : ∀ w,Calls Tryz.prog 155 #[.string p] w fun e w'=>e=.returned (.bool true)∧Below w.heap.size w w')
  (h0 : (p.toList == [48])=true) :
  Calls Tryz.prog 115 #[.string s] w fun e w'=>e=.returned (.tuple #[.agg #[.string p,.string d],.bool false])∧Below w.heap.size w w':=by
 have HC:=Lib.hid hc
 have HV:=Lib.hid hv
 clear hc hv
 go_enter Tryz.func115,Tryz.ntmps115
 go_wp2_with fail
 refine (HC.out _ (hB.below bel)).mono ?_
 rintro e w1 ⟨rfl,g1⟩
 have hz1 : w.heap.size<w1.heap.size:=hzs g1
 have B1:=bn (w:=w) bel g1
 have c1_0_0:=bcv g1 w.heap.size 0 (.string ⟨#[]⟩)
 have f1_0_0:=bfv g1 w.heap.size 0
 have c1_0_1:=bcv g1 w.heap.size 1 (.string ⟨#[]⟩)
 have f1_0_1:=bfv g1 w.heap.size 1
 clear g1
 go_wp2_with fail
 refine (HV.out _).mono ?_
 rintro e w2 ⟨rfl,g2⟩
 have hz2 : w.heap.size<w2.heap.size:=hzs g2
 have B2:=bn (w:=w) bel g2
 have c2_0_0:=bcv g2 w.heap.size 0 (.string ⟨#[]⟩)
 have f2_0_0:=bfv g2 w.heap.size 0
 have c2_0_1:=bcv g2 w.heap.size 1 (.string ⟨#[]⟩)
 have f2_0_1:=bfv g2 w.heap.size 1
 clear g2
 go_wp2
 refine bodyPost_ret (v:=.tuple #[.agg #[.string p,.string d],.bool false]) (by simp [results,Tryz.results115,go_sem, *]) rfl ⟨(by first | rfl | rw [hI]),bel⟩
set_option maxHeartbeats 1000000 in
theorem rread_nonat (s p d g : ByteArray) (w : World) (hB : Bw w)
  (hc : ∀ w,Bw w→Calls Tryz.prog 154 #[.string s,.string ⟨#[47]⟩] w fun e w'=>e=.returned (.tuple #[.string p,.string d,.bool true])∧Below w.heap.size w w')
  (hv : ∀ w,Calls Tryz.prog 155 #[.string p] w fun e w'=>e=.returned (.bool true)∧Below w.heap.size w w')
  (h0 : (p.toList == [48])=false)
  (hn : ∀ w,Calls Tryz.prog 156 #[.string d] w fun e w'=>e=.returned (.bool false)∧w'=w) :
  Calls Tryz.prog 115 #[.string s] w fun e w'=>e=.returned (.tuple #[.agg #[.string p,.string d],.bool false])∧Below w.heap.size w w':=by
 have HC:=Lib.hid hc
 have HV:=Lib.hid hv
 have HN:=Lib.hid hn
 clear hn
 clear hc hv
 go_enter Tryz.func115,Tryz.ntmps115
 go_wp2_with fail
 refine (HC.out _ (hB.below bel)).mono ?_
 rintro e w1 ⟨rfl,g1⟩
 have hz1 : w.heap.size<w1.heap.size:=hzs g1
 have B1:=bn (w:=w) bel g1
 have c1_0_0:=bcv g1 w.heap.size 0 (.string ⟨#[]⟩)
 have f1_0_0:=bfv g1 w.heap.size 0
 have c1_0_1:=bcv g1 w.heap.size 1 (.string ⟨#[]⟩)
 have f1_0_1:=bfv g1 w.heap.size 1
 clear g1
 go_wp2_with fail
 refine (HV.out _).mono ?_
 rintro e w2 ⟨rfl,g2⟩
 have hz2 : w.heap.size<w2.heap.size:=hzs g2
 have B2:=bn (w:=w) bel g2
 have c2_0_0:=bcv g2 w.heap.size 0 (.string ⟨#[]⟩)
 have f2_0_0:=bfv g2 w.heap.size 0
 have c2_0_1:=bcv g2 w.heap.size 1 (.string ⟨#[]⟩)
 have f2_0_1:=bfv g2 w.heap.size 1
 clear g2
 go_wp2_with fail
 refine (HN.out _).mono ?_
 rintro e w3 ⟨rfl,rfl⟩
 go_wp2
 refine bodyPost_ret (v:=.tuple #[.agg #[.string p,.string d],.bool false]) (by simp [results,Tryz.results115,go_sem, *]) rfl ⟨(by first | rfl | rw [hI]),bel⟩
set_option maxHeartbeats 1000000 in
theorem rread_den0 (s p d g : ByteArray) (w : World) (hB : Bw w)
  (hc : ∀ w,Bw w→Calls Tryz.prog 154 #[.string s,.string ⟨#[47]⟩] w fun e w'=>e=.returned (.tuple #[.string p,.string d,.bool true])∧Below w.heap.size w w')
  (hv : ∀ w,Calls Tryz.prog 155 #[.string p] w fun e w'=>e=.returned (.bool true)∧Below w.heap.size w w')
  (h0 : (p.toList == [48])=false)
  (hn : ∀ w,Calls Tryz.prog 156 #[.string d] w fun e w'=>e=.returned (.bool true)∧w'=w)
  (k0 : (d.toList == [48])=true) :
  Calls Tryz.prog 115 #[.string s] w fun e w'=>e=.returned (.tuple #[.agg #[.string p,.string d],.bool false])∧Below w.heap.size w w':=by
 have HC:=Lib.hid hc
 have HV:=Lib.hid hv
 have HN:=Lib.hid hn
 clear hn
 clear hc hv
 go_enter Tryz.func115,Tryz.ntmps115
 go_wp2_with fail
 refine (HC.out _ (hB.below bel)).mono ?_
 rintro e w1 ⟨rfl,g1⟩
 have hz1 : w.heap.size<w1.heap.size:=hzs g1
 have B1:=bn (w:=w) bel g1
 have c1_0_0:=bcv g1 w.heap.size 0 (.string ⟨#[]⟩)
 have f1_0_0:=bfv g1 w.heap.size 0
 have c1_0_1:=bcv g1 w.heap.size 1 (.string ⟨#[]⟩)
 have f1_0_1:=bfv g1 w.heap.size 1
 clear g1
 go_wp2_with fail
 refine (HV.out _).mono ?_
 rintro e w2 ⟨rfl,g2⟩
 have hz2 : w.heap.size<w2.heap.size:=hzs g2
 have B2:=bn (w:=w) bel g2
 have c2_0_0:=bcv g2 w.heap.size 0 (.string ⟨#[]⟩)
 have f2_0_0:=bfv g2 w.heap.size 0
 have c2_0_1:=bcv g2 w.heap.size 1 (.string ⟨#[]⟩)
 have f2_0_1:=bfv g2 w.heap.size 1
 clear g2
 go_wp2_with fail
 refine (HN.out _).mono ?_
 rintro e w3 ⟨rfl,rfl⟩
 go_wp2
 refine bodyPost_ret (v:=.tuple #[.agg #[.string p,.string d],.bool false]) (by simp [results,Tryz.results115,go_sem, *]) rfl ⟨(by first | rfl | rw [hI]),bel⟩
set_option maxHeartbeats 1000000 in
theorem rread_den1 (s p d g : ByteArray) (w : World) (hB : Bw w)
  (hc : ∀ w,Bw w→Calls Tryz.prog 154 #[.string s,.string ⟨#[47]⟩] w fun e w'=>e=.returned (.tuple #[.string p,.string d,.bool true])∧Below w.heap.size w w')
  (hv : ∀ w,Calls Tryz.prog 155 #[.string p] w fun e w'=>e=.returned (.bool true)∧Below w.heap.size w w')
  (h0 : (p.toList == [48])=false)
  (hn : ∀ w,Calls Tryz.prog 156 #[.string d] w fun e w'=>e=.returned (.bool true)∧w'=w)
  (k0 : (d.toList == [48])=false)
  (k1 : (d.toList == [49])=true) :
  Calls Tryz.prog 115 #[.string s] w fun e w'=>e=.returned (.tuple #[.agg #[.string p,.string d],.bool false])∧Below w.heap.size w w':=by
 have HC:=Lib.hid hc
 have HV:=Lib.hid hv
 have HN:=Lib.hid hn
 clear hn
 clear hc hv
 go_enter Tryz.func115,Tryz.ntmps115
 go_wp2_with fail
 refine (HC.out _ (hB.below bel)).mono ?_
 rintro e w1 ⟨rfl,g1⟩
 have hz1 : w.heap.size<w1.heap.size:=hzs g1
 have B1:=bn (w:=w) bel g1
 have c1_0_0:=bcv g1 w.heap.size 0 (.string ⟨#[]⟩)
 have f1_0_0:=bfv g1 w.heap.size 0
 have c1_0_1:=bcv g1 w.heap.size 1 (.string ⟨#[]⟩)
 have f1_0_1:=bfv g1 w.heap.size 1
 clear g1
 go_wp2_with fail
 refine (HV.out _).mono ?_
 rintro e w2 ⟨rfl,g2⟩
 have hz2 : w.heap.size<w2.heap.size:=hzs g2
 have B2:=bn (w:=w) bel g2
 have c2_0_0:=bcv g2 w.heap.size 0 (.string ⟨#[]⟩)
 have f2_0_0:=bfv g2 w.heap.size 0
 have c2_0_1:=bcv g2 w.heap.size 1 (.string ⟨#[]⟩)
 have f2_0_1:=bfv g2 w.heap.size 1
 clear g2
 go_wp2_with fail
 refine (HN.out _).mono ?_
 rintro e w3 ⟨rfl,rfl⟩
 go_wp2
 refine bodyPost_ret (v:=.tuple #[.agg #[.string p,.string d],.bool false]) (by simp [results,Tryz.results115,go_sem, *]) rfl ⟨(by first | rfl | rw [hI]),bel⟩
set_option maxHeartbeats 1000000 in
theorem rread_frac (s p d g : ByteArray) (w : World) (hB : Bw w)
  (hc : ∀ w,Bw w→Calls Tryz.prog 154 #[.string s,.string ⟨#[47]⟩] w fun e w'=>e=.returned (.tuple #[.string p,.string d,.bool true])∧Below w.heap.size w w')
  (hv : ∀ w,Calls Tryz.prog 155 #[.string p] w fun e w'=>e=.returned (.bool true)∧Below w.heap.size w w')
  (h0 : (p.toList == [48])=false)
  (hn : ∀ w,Calls Tryz.prog 156 #[.string d] w fun e w'=>e=.returned (.bool true)∧w'=w)
  (k0 : (d.toList == [48])=false)
  (k1 : (d.toList == [49])=false)
  (hg : ∀ w,Bw w→Calls Tryz.prog 157 #[.string p,.string d] w fun e w'=>e=.returned (.string g)∧Below w.heap.size w w') :
  Calls Tryz.prog 115 #[.string s] w fun e w'=>e=.returned (.tuple #[.agg #[.string p,.string d],.bool (g.toList == [49])])∧Below w.heap.size w w':=by
 have HC:=Lib.hid hc
 have HV:=Lib.hid hv
 have HN:=Lib.hid hn
 clear hn
 have HG:=Lib.hid hg
 clear hg
 clear hc hv
 go_enter Tryz.func115,Tryz.ntmps115
 go_wp2_with fail
 refine (HC.out _ (hB.below bel)).mono ?_
 rintro e w1 ⟨rfl,g1⟩
 have hz1 : w.heap.size<w1.heap.size:=hzs g1
 have B1:=bn (w:=w) bel g1
 have c1_0_0:=bcv g1 w.heap.size 0 (.string ⟨#[]⟩)
 have f1_0_0:=bfv g1 w.heap.size 0
 have c1_0_1:=bcv g1 w.heap.size 1 (.string ⟨#[]⟩)
 have f1_0_1:=bfv g1 w.heap.size 1
 clear g1
 go_wp2_with fail
 refine (HV.out _).mono ?_
 rintro e w2 ⟨rfl,g2⟩
 have hz2 : w.heap.size<w2.heap.size:=hzs g2
 have B2:=bn (w:=w) bel g2
 have c2_0_0:=bcv g2 w.heap.size 0 (.string ⟨#[]⟩)
 have f2_0_0:=bfv g2 w.heap.size 0
 have c2_0_1:=bcv g2 w.heap.size 1 (.string ⟨#[]⟩)
 have f2_0_1:=bfv g2 w.heap.size 1
 clear g2
 go_wp2_with fail
 refine (HN.out _).mono ?_
 rintro e w3 ⟨rfl,rfl⟩
 go_wp2_with fail
 refine (HG.out _ (hB.below bel)).mono ?_
 rintro e w4 ⟨rfl,g4⟩
 have hz4 : w.heap.size<w4.heap.size:=hzs g4
 have B4:=bn (w:=w) bel g4
 have c4_0_0:=bcv g4 w.heap.size 0 (.string ⟨#[]⟩)
 have f4_0_0:=bfv g4 w.heap.size 0
 have c4_0_1:=bcv g4 w.heap.size 1 (.string ⟨#[]⟩)
 have f4_0_1:=bfv g4 w.heap.size 1
 clear g4
 go_wp2
 refine bodyPost_ret (v:=.tuple #[.agg #[.string p,.string d],.bool (g.toList == [49])]) (by simp [results,Tryz.results115,go_sem, *]) rfl ⟨(by first | rfl | rw [hI]),bel⟩
theorem mk_toList (l : List UInt8) : (⟨l.toArray⟩ : ByteArray).data.toList=l:=by simp
theorem mk_toList2 (l : List UInt8) : (⟨l.toArray⟩ : ByteArray).toList=l:=by rw [ByteArray.toList_eq]
theorem mk_size (l : List UInt8) : (⟨l.toArray⟩ : ByteArray).size=l.length:=by rw [← toList_length,mk_toList]
theorem natValid_mk (l : List UInt8) (h : l.length≤100000000) (w : World) :
  Calls Tryz.prog 156 #[.string ⟨l.toArray⟩] w fun e w'=>e=.returned (.bool (isNat l))∧w'=w:=by
 have:=valid_walk ⟨l.toArray⟩ (by rw [mk_size]; omega) w
 rwa [mk_toList] at this
theorem intValid_mk (l : List UInt8) (h : l.length≤100000000) (w : World) :
  Calls Tryz.prog 155 #[.string ⟨l.toArray⟩] w fun e w'=>e=.returned (.bool (isIntL l))∧Below w.heap.size w w':=by
 have:=iValid_walk ⟨l.toArray⟩ (by rw [mk_size]; omega) w
 unfold isIntB at this
 rwa [mk_toList] at this
theorem rread_any (s : ByteArray) (hs : s.size≤40000000) (w : World) (hB : Bw w) :
  Calls Tryz.prog 115 #[.string s] w fun e w'=>(∃ p d,e=.returned (.tuple #[.agg #[.string ⟨p⟩,.string ⟨d⟩],.bool (isRat s)])∧(isRat s=true→.agg #[.string ⟨p⟩,.string ⟨d⟩]=FV (ratOfL s.data.toList)))∧Below w.heap.size w w':=by
 have hc:=fun w hB=>rcut_walk s (by omega) w hB
 have hl : s.data.toList.length≤40000000:=by rw [toList_length]; exact hs
 unfold isRat isRatL ratOfL
 rcases cut_cases s.data.toList with ⟨h1,e⟩ | ⟨p,r,hp,hl2,e⟩
 ·rw [e] at hc ⊢
  simp only [Bool.false_eq_true,if_false]
  refine (rread_whole s _ _ _ w hB hc (fun w=>intValid_mk s.data.toList (by omega) w)).mono ?_
  rintro e' w' ⟨rfl,hb⟩
  refine ⟨⟨_,_,rfl,fun hi=>?_⟩,hb⟩
  rw [FV_eq]
  simp only [Rat.num_intCast,Rat.den_intCast,dec_one]
  rw [itx,itoa_intOfL hi]
 ·rw [e] at hc ⊢
  simp only [if_true]
  have hlp : p.length≤40000000∧r.length≤40000000:=by
   rw [hl2,List.length_append,List.length_cons] at hl
   omega
  clear hl2 hl
  have hvp:=intValid_mk p (by omega)
  have hvr:=natValid_mk r (by omega)
  unfold isFracL
  cases hi : isIntL p
  ·rw [hi] at hvp
   refine (rread_noint s _ _ ⟨#[]⟩ w hB hc hvp).mono ?_
   rintro e' w' ⟨rfl,hb⟩
   exact ⟨⟨_,_,rfl,fun hf=>by simp at hf⟩,hb⟩
  rw [hi] at hvp
  cases h0 : p == [48]
  case' true =>
   refine (rread_zero s _ _ ⟨#[]⟩ w hB hc hvp (by rw [mk_toList2]; exact h0)).mono ?_
   rintro e' w' ⟨rfl,hb⟩
   have : (p != [48])=false:=by unfold bne; rw [h0]; rfl
   rw [this]
   exact ⟨⟨_,_,rfl,fun hf=>by simp at hf⟩,hb⟩
  have h0' : (p != [48])=true:=by unfold bne; rw [h0]; rfl
  rw [h0']
  cases hn : isNat r
  ·rw [hn] at hvr
   refine (rread_nonat s _ _ ⟨#[]⟩ w hB hc hvp (by rw [mk_toList2]; exact h0) hvr).mono ?_
   rintro e' w' ⟨rfl,hb⟩
   exact ⟨⟨_,_,rfl,fun hf=>by simp at hf⟩,hb⟩
  rw [hn] at hvr
  cases k0 : r == [48]
  case' true =>
   refine (rread_den0 s _ _ ⟨#[]⟩ w hB hc hvp (by rw [mk_toList2]; exact h0) hvr (by rw [mk_toList2]; exact k0)).mono ?_
   rintro e' w' ⟨rfl,hb⟩
   have : (r != [48])=false:=by unfold bne; rw [k0]; rfl
   rw [this]
   exact ⟨⟨_,_,rfl,fun hf=>by simp at hf⟩,hb⟩
  have k0' : (r != [48])=true:=by unfold bne; rw [k0]; rfl
  rw [k0']
  cases k1 : r == [49]
  case' true =>
   refine (rread_den1 s _ _ ⟨#[]⟩ w hB hc hvp (by rw [mk_toList2]; exact h0) hvr (by rw [mk_toList2]; exact k0) (by rw [mk_toList2]; exact k1)).mono ?_
   rintro e' w' ⟨rfl,hb⟩
   have : (r != [49])=false:=by unfold bne; rw [k1]; rfl
   rw [this]
   exact ⟨⟨_,_,rfl,fun hf=>by simp at hf⟩,hb⟩
  have k1' : (r != [49])=true:=by unfold bne; rw [k1]; rfl
  rw [k1']
  have ep : (⟨p.toArray⟩ : ByteArray)=itx (intOfL p):=by rw [itx,itoa_intOfL hi]
  have er : (⟨r.toArray⟩ : ByteArray)=dec (natOf r):=by rw [dec,decDigits_natOf hn]
  have d1 : dg (intOfL p).natAbs≤40000000:=by
   have:=dg_sgn (intOfL p)
   rw [← ep,mk_size] at this
   omega
  have d2 : dg (natOf r)≤40000000:=by
   rw [← dg_def,← er,mk_size]; omega
  refine (rread_frac s _ _ (dec (Nat.gcd (intOfL p).natAbs (natOf r))) w hB hc hvp (by rw [mk_toList2]; exact h0) hvr (by rw [mk_toList2]; exact k0) (by rw [mk_toList2]; exact k1) (fun w hB=>by rw [ep,er]; exact divisor_walk _ _ (by omega) (by omega) w hB)).mono ?_
  rintro e' w' ⟨rfl,hb⟩
  rw [dec_ne1]
  refine ⟨⟨_,_,rfl,fun hf=>?_⟩,hb⟩
  simp at hf
  have hd0 : natOf r≠0:=fun e0=>by
   rw [← decDigits_natOf hn,e0,decDigits_small (by omega)] at k0
   exact absurd k0 (by decide)
  show Value.agg #[.string ⟨p.toArray⟩,.string ⟨r.toArray⟩]=_
  rw [FV_mk _ _ hd0,hf,ep,er]
  simp
end Go.Proofs.YtopfedbhkfdjkaaGreatDoor


/- rational: Valid, both. -/
namespace Go.Proofs.YtopfedbhkfdjkaaGreatDoor
open Go Go.RowKit
theorem itoa_length (z : Int) : (Lib.itoa z).length≤dg z.natAbs+1:=by
 have:=itx_size z
 rwa [← toList_length,itx_toList] at this
theorem decDigits_length (n : Nat) : (Lib.decDigits n).length=dg n:=by rw [← dec_toList,toList_length]; rfl
theorem rtx_size (q : Rat) : (rtx q).size≤2 * rz q+2:=by
 rw [← toList_length,rtx_toList]
 have h1:=itoa_length q.num
 have h2:=decDigits_length q.den
 have h3:=rz_num q
 have h4:=rz_den q
 unfold rtoa
 split
 ·omega
 ·rw [List.length_append,List.length_cons]; omega
theorem rz_le_size (q : Rat) : rz q≤(rtx q).size:=by
 rw [← toList_length,rtx_toList]
 have h1:=dg_sgn q.num
 rw [← toList_length,itx_toList] at h1
 have h2:=decDigits_length q.den
 unfold rz rtoa
 split
 ·rename_i h
  rw [h,dg_one]
  have:=dg_pos q.num.natAbs
  omega
 ·rw [List.length_append,List.length_cons]; omega
theorem rread_rtx (q : Rat) (hq : rz q≤10000000) (w : World) (hB : Bw w) :
  Calls Tryz.prog 115 #[.string (rtx q)] w fun e w'=>e=.returned (.tuple #[FV q,.bool true])∧Below w.heap.size w w':=by
 refine (rread_any (rtx q) (by have:=rtx_size q; omega) w hB).mono ?_
 rintro e w' ⟨⟨p,d,rfl,h⟩,hb⟩
 rw [isRat_rtx] at h ⊢
 refine ⟨?_,hb⟩
 rw [h rfl,rtx_toList,ratOfL_rtoa]
theorem rread_some (s : ByteArray) (hs : s.size≤40000000) (w : World) (hB : Bw w) :
  Calls Tryz.prog 115 #[.string s] w (Ret fun v w'=>(∃ p d,v=.tuple #[.agg #[.string p,.string d],.bool (isRat s)])∧Below w.heap.size w w'):=by
 refine (rread_any s hs w hB).mono ?_
 rintro e w' ⟨⟨p,d,rfl,h⟩,hb⟩
 exact ⟨_,rfl,⟨_,_,rfl⟩,hb⟩
set_option maxHeartbeats 1000000 in
theorem rValid_walk (s : ByteArray) (hs : s.size≤40000000) (w : World) (hB : Bw w) :
  Calls Tryz.prog 67 #[.string s] w fun e w'=>e=.returned (.bool (isRat s))∧Below w.heap.size w w':=by
 have H:=Lib.hid (fun w hB=>rread_some s hs w hB)
 clear hs
 generalize isRat s=r at *
 go_enter Tryz.func67,Tryz.ntmps67
 go_wp2_with fail
 refine (H.out _ (hB.below bel)).mono ?_
 rintro e w1 ⟨_,rfl,⟨p,d,rfl⟩,g1⟩
 have B1:=bn (w:=w) bel g1
 clear g1
 go_wp2
 go_ret
 exact ⟨rfl,bel⟩
set_option maxHeartbeats 1000000 in
theorem rboth_walk (x y : Rat) (hx : rz x≤10000000) (hy : rz y≤10000000) (w : World) (hB : Bw w) :
  Calls Tryz.prog 93 #[.string (rtx x),.string (rtx y)] w fun e w'=>e=.returned (.tuple #[FV x,FV y,.int .i64 0])∧Below w.heap.size w w':=by
 have H1:=Lib.hid (fun w hB=>rread_rtx x hx w hB)
 have H2:=Lib.hid (fun w hB=>rread_rtx y hy w hB)
 clear hx hy
 generalize rtx x=s at *
 generalize rtx y=t at *
 obtain ⟨b1,d1,e1⟩:=FV_shape x
 obtain ⟨b2,d2,e2⟩:=FV_shape y
 rw [e1] at H1 ⊢
 rw [e2] at H2 ⊢
 clear e1 e2
 go_enter Tryz.func93,Tryz.ntmps93
 go_wp2_with fail
 refine (H1.out _ (hB.below bel)).mono ?_
 rintro e w1 ⟨rfl,g1⟩
 have hz1 : w.heap.size+1<w1.heap.size:=hzs g1
 have hz1_0 : w.heap.size<w1.heap.size:=by omega
 have B1:=bn (w:=w) bel g1
 have c1_0_0:=bcv g1 w.heap.size 0 (.string ⟨#[]⟩)
 have f1_0_0:=bfv g1 w.heap.size 0
 have c1_0_1:=bcv g1 w.heap.size 1 (.string ⟨#[]⟩)
 have f1_0_1:=bfv g1 w.heap.size 1
 have c1_1_0:=bcv g1 (w.heap.size+1) 0 (.string ⟨#[]⟩)
 have f1_1_0:=bfv g1 (w.heap.size+1) 0
 have c1_1_1:=bcv g1 (w.heap.size+1) 1 (.string ⟨#[]⟩)
 have f1_1_1:=bfv g1 (w.heap.size+1) 1
 clear g1
 go_wp2_with fail
 refine (H2.out _ (hB.below bel)).mono ?_
 rintro e w2 ⟨rfl,g2⟩
 have c2_a:=bc (b:=w1.heap.size) (o:=0) (v:=.string b1) g2 (by go_simp)
 have c2_b:=bc (b:=w1.heap.size) (o:=1) (v:=.string d1) g2 (by go_simp)
 have hz3 : w1.heap.size<w2.heap.size:=hzs g2
 have hz2 : w.heap.size+1<w2.heap.size:=hzs g2
 have hz2_0 : w.heap.size<w2.heap.size:=by omega
 have B2:=bn (w:=w) bel g2
 have c2_0_0:=bcv g2 w.heap.size 0 (.string ⟨#[]⟩)
 have f2_0_0:=bfv g2 w.heap.size 0
 have c2_0_1:=bcv g2 w.heap.size 1 (.string ⟨#[]⟩)
 have f2_0_1:=bfv g2 w.heap.size 1
 have c2_1_0:=bcv g2 (w.heap.size+1) 0 (.string ⟨#[]⟩)
 have f2_1_0:=bfv g2 (w.heap.size+1) 0
 have c2_1_1:=bcv g2 (w.heap.size+1) 1 (.string ⟨#[]⟩)
 have f2_1_1:=bfv g2 (w.heap.size+1) 1
 clear g2
 go_wp2
 go_region
 go_wp2
 refine bodyPost_ret (v:=.tuple #[.agg #[.string b1,.string d1],.agg #[.string b2,.string d2],.int .i64 0]) (by simp [results,Tryz.results93,go_sem, *]) rfl ⟨(by first | rfl | rw [hI]),bel⟩
theorem chk_u8 (e : Bool) (k : Int) (w : World) : (Instr.checkKey e 10000 5 (.int .u8 k)).run Tryz.prog w=.ok () w:=by
 rw [show (10000 : Nat)=9999+1 from rfl]
 unfold Instr.checkKey
 simp [run_underlying Tryz.underlying5]
theorem find_u8 {es : List MapEntry} {k : Int} {r : Option (Nat × Value)} (hk : Instr.findNow (.int .u8) (.int .u8 k) es 0=some r) (w : World) : (Instr.findKey 5 (.int .u8 k) es).run Tryz.prog w=.ok r w:=by
 simp [Instr.findKey,run_underlying Tryz.underlying5,hk]
theorem push_set {α : Type} (a : Array α) (x y : α) : (a.push x).setIfInBounds a.size y=a.push y:=by
 apply Array.ext'
 simp
theorem upd_new (w : World) (es : Array MapEntry) (c : Nat) (k : Int) (v : Value) (hk : Instr.findNow (.int .u8) (.int .u8 k) es.toList 0=some none) : (Instr.mapUpdate 190 (.map (some w.heap.size)) (.int .u8 k) v).run Tryz.prog (w.alloc (.map es c))=.ok () (w.alloc (.map (es.push ⟨.int .u8 k,v,c⟩) (c+1))):=by
 have hb:=heap_new w (.map es c)
 have hf:=find_u8 hk
 simp [Instr.mapUpdate,run_underlying Tryz.underlying190,MapKept.run_getObj_map hb,chk_u8,hf,MapKept.run_setObj_map _ hb,Result.andThen]
 simp [World.alloc, -World.alloc_eq]
 exact push_set _ _ _
def opsMap : Obj:=.map #[⟨.int .u8 43,.func (.func 186) #[] #[],0⟩,⟨.int .u8 42,.func (.func 187) #[] #[],1⟩,⟨.int .u8 45,.func (.func 188) #[] #[],2⟩,⟨.int .u8 47,.func (.func 190) #[] #[],3⟩] 4
set_option maxHeartbeats 1000000 in
theorem operations_walk (w : World) :
  Calls Tryz.prog 160 #[] w fun e w'=>e=.returned (.map (some w.heap.size))∧w'=w.alloc opsMap:=by
 have hmm:=@run_makeMap Tryz.prog
 have h1:=upd_new w #[] 0 43 (.func (.func 186) #[] #[]) (by rfl)
 simp only [List.push_toArray,List.nil_append,List.cons_append,Nat.reduceAdd] at h1
 have h2:=upd_new w #[⟨.int .u8 43,.func (.func 186) #[] #[],0⟩] 1 42 (.func (.func 187) #[] #[]) (by rfl)
 simp only [List.push_toArray,List.nil_append,List.cons_append,Nat.reduceAdd] at h2
 have h3:=upd_new w #[⟨.int .u8 43,.func (.func 186) #[] #[],0⟩,⟨.int .u8 42,.func (.func 187) #[] #[],1⟩] 2 45 (.func (.func 188) #[] #[]) (by rfl)
 simp only [List.push_toArray,List.nil_append,List.cons_append,Nat.reduceAdd] at h3
 have h4:=upd_new w #[⟨.int .u8 43,.func (.func 186) #[] #[],0⟩,⟨.int .u8 42,.func (.func 187) #[] #[],1⟩,⟨.int .u8 45,.func (.func 188) #[] #[],2⟩] 3 47 (.func (.func 190) #[] #[]) (by rfl)
 simp only [List.push_toArray,List.nil_append,List.cons_append,Nat.reduceAdd] at h4
 go_enter Tryz.func160,Tryz.ntmps160
 go_wp2
 go_ret
 exact ⟨rfl,rfl⟩
theorem all_walk (w : World) :
  Calls Tryz.prog 120 #[] w fun e w'=>e=.returned (.map (some w.heap.size))∧w'=w.alloc opsMap:=by
 go_enter Tryz.func120,Tryz.ntmps120
 go_wp2_with fail
 refine (operations_walk _).mono ?_
 rintro e w' ⟨rfl,rfl⟩
 go_wp2
 go_ret
 exact ⟨rfl,rfl⟩
theorem look_op (W : World) (b : Nat) (k : Int) (v : Value) (i : Nat) (hb : W.heap[b]?=some opsMap) (hk : Instr.findNow (.int .u8) (.int .u8 k) ([⟨.int .u8 43,.func (.func 186) #[] #[],0⟩,⟨.int .u8 42,.func (.func 187) #[] #[],1⟩,⟨.int .u8 45,.func (.func 188) #[] #[],2⟩,⟨.int .u8 47,.func (.func 190) #[] #[],3⟩] : List MapEntry) 0=some (some (i,v))) :
  (Instr.lookup 190 (.map (some b)) (.int .u8 k) false).run Tryz.prog W=.ok v W:=by
 have hf:=find_u8 hk
 unfold opsMap at hb
 simp [Instr.lookup,run_underlying Tryz.underlying190,MapKept.run_getObj_map hb,chk_u8,hf,Result.andThen]
end Go.Proofs.YtopfedbhkfdjkaaGreatDoor


/- rational: the operations' closures; apply, Add, Sub, Mul. -/
namespace Go.Proofs.YtopfedbhkfdjkaaGreatDoor
open Go Go.RowKit
theorem all_some (w : World) :
  Calls Tryz.prog 120 #[] w (Ret fun v w'=>(∃ b,v=.map (some b)∧w'.heap[b]?=some opsMap)∧Below w.heap.size w w'):=by
 refine (all_walk w).mono ?_
 rintro e w' ⟨rfl,rfl⟩
 exact ⟨_,rfl,⟨_,rfl,heap_new _ _⟩,ba (br w)⟩
set_option maxHeartbeats 1000000 in
theorem rminus_walk (x y : Rat) (hx : rz x≤20000000) (hy : rz y≤20000000) (w : World) (hB : Bw w) :
  Calls Tryz.prog 188 #[FV x,FV y] w fun e w'=>e=.returned (FV (x - y))∧Below w.heap.size w w':=by
 have H1:=Lib.hid (fun w=>ropposite_walk y (by omega) w)
 have H2:=Lib.hid (fun w hB=>rplus_walk x (-y) hx (by rw [rz_neg]; exact hy) w hB)
 rw [← Rat.sub_eq_add_neg] at H2
 obtain ⟨s1,t1,e1⟩:=FV_shape x
 obtain ⟨s2,t2,e2⟩:=FV_shape y
 obtain ⟨s3,t3,e3⟩:=FV_shape (-y)
 obtain ⟨s4,t4,e4⟩:=FV_shape (x - y)
 rw [e1,e3,e4] at H2
 rw [e2,e3] at H1
 rw [e1,e2,e4]
 clear e1 e2 e3 e4 hx hy
 go_enter Tryz.func188,Tryz.ntmps188
 go_wp2
 go_region_held3 (fun w'=>w'.cell? ⟨w.heap.size,0,none⟩=some (.string s1)∧w'.cell? ⟨w.heap.size,1,none⟩=some (.string t1)∧w'.cell? ⟨w.heap.size+1,0,none⟩=some (.string s2)∧w'.cell? ⟨w.heap.size+1,1,none⟩=some (.string t2)∧Below w.heap.size w w')
  ((go_split_ands; refine ⟨?_, ?_, ?_, ?_, ?_⟩<;>first | (go_simp; done) | (exact bcs g1) | (exact bn bel g1) | exact bel))
  (first | (go_at_call 189; refine (H1.out _).mono ?_; rintro e w1 ⟨rfl,g1⟩; have hz1 : w.heap.size+2<w1.heap.size:=hzs g1; have c1_2_0:=bcv g1 (w.heap.size+1+1) 0 (.string ⟨#[]⟩); have f1_2_0:=bfv g1 (w.heap.size+1+1) 0; have c1_2_1:=bcv g1 (w.heap.size+1+1) 1 (.string ⟨#[]⟩); have f1_2_1:=bfv g1 (w.heap.size+1+1) 1) | (go_at_call 186; refine (H2.out _ (hB.below (by go_split_ands; assumption))).mono ?_; rintro e w1 ⟨rfl,g1⟩; have hz1 : w.heap.size+2<w1.heap.size:=hzs g1; have c1_2_0:=bcv g1 (w.heap.size+1+1) 0 (.string ⟨#[]⟩); have f1_2_0:=bfv g1 (w.heap.size+1+1) 0; have c1_2_1:=bcv g1 (w.heap.size+1+1) 1 (.string ⟨#[]⟩); have f1_2_1:=bfv g1 (w.heap.size+1+1) 1))
 go_split_ands
 go_wp2
 refine bodyPost_ret (v:=.agg #[.string s4,.string t4]) (by simp [results,Tryz.results188,go_sem, *]) rfl ⟨(by first | rfl | rw [hI]),bel⟩
set_option maxHeartbeats 1000000 in
theorem apply_43 (x y r : Rat) (hx : rz x≤10000000) (hy : rz y≤10000000) (hr : rz r≤50000000)
  (hc : ∀ w,Bw w→Calls Tryz.prog 186 #[FV x,FV y] w fun e w'=>e=.returned (FV r)∧Below w.heap.size w w') (w : World) (hB : Bw w) :
  Calls Tryz.prog 73 #[.int .u8 43,.string (rtx x),.string (rtx y)] w fun e w'=>e=.returned (.tuple #[.string (rtx r),.int .i64 0])∧Below w.heap.size w w':=by
 have H1:=Lib.hid (fun w hB=>rboth_walk x y hx hy w hB)
 have H2:=Lib.hid hc
 have H3:=Lib.hid (fun w=>rtext_walk r hr w)
 obtain ⟨s1,t1,e1⟩:=FV_shape x
 obtain ⟨s3,t3,e3⟩:=FV_shape r
 obtain ⟨s2,t2,e2⟩:=FV_shape y
 rw [e1,e2] at H1
 rw [e1,e2,e3] at H2
 rw [e3] at H3
 clear e1 e3 hx hy hr hc e2
 generalize rtx x=xs at *
 generalize rtx y=ys at *
 generalize rtx r=rs at *
 have HL:=Lib.hid (fun W b hb=>look_op W b 43 (.func (.func 186) #[] #[]) 0 hb (by rfl))
 go_enter Tryz.func73,Tryz.ntmps73
 go_wp2_with fail
 refine (H1.out _ (hB.below bel)).mono ?_
 rintro e w1 ⟨rfl,g1⟩
 have B1:=bn (w:=w) bel g1
 clear g1
 go_wp2
 go_region_held3 (fun w'=>w'.cell? ⟨w1.heap.size,0,none⟩=some (.string s1)∧w'.cell? ⟨w1.heap.size,1,none⟩=some (.string t1)∧w'.cell? ⟨w1.heap.size+1,0,none⟩=some (.string s2)∧w'.cell? ⟨w1.heap.size+1,1,none⟩=some (.string t2)∧Below w.heap.size w w')
  ((go_split_ands; refine ⟨?_, ?_, ?_, ?_, ?_⟩<;>first | (go_simp; done) | (exact bcs g2) | (exact bn bel g2) | exact bel))
  (first | (go_at_call 120; refine (all_some _).mono ?_; rintro e w2 ⟨_,rfl,⟨b,rfl,hb⟩,g2⟩; have hlk:=HL.out w2 b hb; clear hb) | (go_at_call 186; refine (H2.out _ (hB.below (by go_split_ands; assumption))).mono ?_; rintro e w2 ⟨rfl,g2⟩) | (go_at_call 121; refine (H3.out _).mono ?_; rintro e w2 ⟨rfl,g2⟩))
 go_split_ands
 go_wp2
 go_ret2
 exact ⟨rfl,bel⟩
set_option maxHeartbeats 1000000 in
theorem apply_42 (x y r : Rat) (hx : rz x≤10000000) (hy : rz y≤10000000) (hr : rz r≤50000000)
  (hc : ∀ w,Bw w→Calls Tryz.prog 187 #[FV x,FV y] w fun e w'=>e=.returned (FV r)∧Below w.heap.size w w') (w : World) (hB : Bw w) :
  Calls Tryz.prog 73 #[.int .u8 42,.string (rtx x),.string (rtx y)] w fun e w'=>e=.returned (.tuple #[.string (rtx r),.int .i64 0])∧Below w.heap.size w w':=by
 have H1:=Lib.hid (fun w hB=>rboth_walk x y hx hy w hB)
 have H2:=Lib.hid hc
 have H3:=Lib.hid (fun w=>rtext_walk r hr w)
 obtain ⟨s1,t1,e1⟩:=FV_shape x
 obtain ⟨s3,t3,e3⟩:=FV_shape r
 obtain ⟨s2,t2,e2⟩:=FV_shape y
 rw [e1,e2] at H1
 rw [e1,e2,e3] at H2
 rw [e3] at H3
 clear e1 e3 hx hy hr hc e2
 generalize rtx x=xs at *
 generalize rtx y=ys at *
 generalize rtx r=rs at *
 have HL:=Lib.hid (fun W b hb=>look_op W b 42 (.func (.func 187) #[] #[]) 1 hb (by rfl))
 go_enter Tryz.func73,Tryz.ntmps73
 go_wp2_with fail
 refine (H1.out _ (hB.below bel)).mono ?_
 rintro e w1 ⟨rfl,g1⟩
 have B1:=bn (w:=w) bel g1
 clear g1
 go_wp2
 go_region_held3 (fun w'=>w'.cell? ⟨w1.heap.size,0,none⟩=some (.string s1)∧w'.cell? ⟨w1.heap.size,1,none⟩=some (.string t1)∧w'.cell? ⟨w1.heap.size+1,0,none⟩=some (.string s2)∧w'.cell? ⟨w1.heap.size+1,1,none⟩=some (.string t2)∧Below w.heap.size w w')
  ((go_split_ands; refine ⟨?_, ?_, ?_, ?_, ?_⟩<;>first | (go_simp; done) | (exact bcs g2) | (exact bn bel g2) | exact bel))
  (first | (go_at_call 120; refine (all_some _).mono ?_; rintro e w2 ⟨_,rfl,⟨b,rfl,hb⟩,g2⟩; have hlk:=HL.out w2 b hb; clear hb) | (go_at_call 187; refine (H2.out _ (hB.below (by go_split_ands; assumption))).mono ?_; rintro e w2 ⟨rfl,g2⟩) | (go_at_call 121; refine (H3.out _).mono ?_; rintro e w2 ⟨rfl,g2⟩))
 go_split_ands
 go_wp2
 go_ret2
 exact ⟨rfl,bel⟩
set_option maxHeartbeats 1000000 in
theorem apply_45 (x y r : Rat) (hx : rz x≤10000000) (hy : rz y≤10000000) (hr : rz r≤50000000)
  (hc : ∀ w,Bw w→Calls Tryz.prog 188 #[FV x,FV y] w fun e w'=>e=.returned (FV r)∧Below w.heap.size w w') (w : World) (hB : Bw w) :
  Calls Tryz.prog 73 #[.int .u8 45,.string (rtx x),.string (rtx y)] w fun e w'=>e=.returned (.tuple #[.string (rtx r),.int .i64 0])∧Below w.heap.size w w':=by
 have H1:=Lib.hid (fun w hB=>rboth_walk x y hx hy w hB)
 have H2:=Lib.hid hc
 have H3:=Lib.hid (fun w=>rtext_walk r hr w)
 obtain ⟨s1,t1,e1⟩:=FV_shape x
 obtain ⟨s3,t3,e3⟩:=FV_shape r
 obtain ⟨s2,t2,e2⟩:=FV_shape y
 rw [e1,e2] at H1
 rw [e1,e2,e3] at H2
 rw [e3] at H3
 clear e1 e3 hx hy hr hc e2
 generalize rtx x=xs at *
 generalize rtx y=ys at *
 generalize rtx r=rs at *
 have HL:=Lib.hid (fun W b hb=>look_op W b 45 (.func (.func 188) #[] #[]) 2 hb (by rfl))
 go_enter Tryz.func73,Tryz.ntmps73
 go_wp2_with fail
 refine (H1.out _ (hB.below bel)).mono ?_
 rintro e w1 ⟨rfl,g1⟩
 have B1:=bn (w:=w) bel g1
 clear g1
 go_wp2
 go_region_held3 (fun w'=>w'.cell? ⟨w1.heap.size,0,none⟩=some (.string s1)∧w'.cell? ⟨w1.heap.size,1,none⟩=some (.string t1)∧w'.cell? ⟨w1.heap.size+1,0,none⟩=some (.string s2)∧w'.cell? ⟨w1.heap.size+1,1,none⟩=some (.string t2)∧Below w.heap.size w w')
  ((go_split_ands; refine ⟨?_, ?_, ?_, ?_, ?_⟩<;>first | (go_simp; done) | (exact bcs g2) | (exact bn bel g2) | exact bel))
  (first | (go_at_call 120; refine (all_some _).mono ?_; rintro e w2 ⟨_,rfl,⟨b,rfl,hb⟩,g2⟩; have hlk:=HL.out w2 b hb; clear hb) | (go_at_call 188; refine (H2.out _ (hB.below (by go_split_ands; assumption))).mono ?_; rintro e w2 ⟨rfl,g2⟩) | (go_at_call 121; refine (H3.out _).mono ?_; rintro e w2 ⟨rfl,g2⟩))
 go_split_ands
 go_wp2
 go_ret2
 exact ⟨rfl,bel⟩
set_option maxHeartbeats 400000 in
theorem rAdd_walk (x y : Rat) (hx : rz x≤10000000) (hy : rz y≤10000000) (w : World) (hB : Bw w) :
  Calls Tryz.prog 35 #[.string (rtx x),.string (rtx y)] w fun e w'=>e=.returned (.tuple #[.string (rtx (x+y)),.int .i64 0])∧Below w.heap.size w w':=by
 have hr : rz (x+y)≤50000000:=by have:=rz_add x y; omega
 have H:=Lib.hid (fun w hB=>apply_43 x y (x+y) hx hy hr (fun w hB=>rplus_walk x y (by omega) (by omega) w hB) w hB)
 clear hr hx hy
 generalize rtx x=xs at *
 generalize rtx y=ys at *
 generalize rtx (x+y)=rs at *
 go_enter Tryz.func35,Tryz.ntmps35
 go_wp2_with fail
 refine (H.out _ (hB.below bel)).mono ?_
 rintro e w1 ⟨rfl,g1⟩
 have B1:=bn (w:=w) bel g1
 clear g1
 go_wp2
 go_ret2
 exact ⟨rfl,bel⟩
set_option maxHeartbeats 400000 in
theorem rMul_walk (x y : Rat) (hx : rz x≤10000000) (hy : rz y≤10000000) (w : World) (hB : Bw w) :
  Calls Tryz.prog 37 #[.string (rtx x),.string (rtx y)] w fun e w'=>e=.returned (.tuple #[.string (rtx (x * y)),.int .i64 0])∧Below w.heap.size w w':=by
 have hr : rz (x * y)≤50000000:=by have:=rz_mul x y; omega
 have H:=Lib.hid (fun w hB=>apply_42 x y (x * y) hx hy hr (fun w hB=>rtimes_walk x y (by omega) (by omega) w hB) w hB)
 clear hr hx hy
 generalize rtx x=xs at *
 generalize rtx y=ys at *
 generalize rtx (x * y)=rs at *
 go_enter Tryz.func37,Tryz.ntmps37
 go_wp2_with fail
 refine (H.out _ (hB.below bel)).mono ?_
 rintro e w1 ⟨rfl,g1⟩
 have B1:=bn (w:=w) bel g1
 clear g1
 go_wp2
 go_ret2
 exact ⟨rfl,bel⟩
set_option maxHeartbeats 400000 in
theorem rSub_walk (x y : Rat) (hx : rz x≤10000000) (hy : rz y≤10000000) (w : World) (hB : Bw w) :
  Calls Tryz.prog 40 #[.string (rtx x),.string (rtx y)] w fun e w'=>e=.returned (.tuple #[.string (rtx (x - y)),.int .i64 0])∧Below w.heap.size w w':=by
 have hr : rz (x - y)≤50000000:=by have:=rz_sub x y; omega
 have H:=Lib.hid (fun w hB=>apply_45 x y (x - y) hx hy hr (fun w hB=>rminus_walk x y (by omega) (by omega) w hB) w hB)
 clear hr hx hy
 generalize rtx x=xs at *
 generalize rtx y=ys at *
 generalize rtx (x - y)=rs at *
 go_enter Tryz.func40,Tryz.ntmps40
 go_wp2_with fail
 refine (H.out _ (hB.below bel)).mono ?_
 rintro e w1 ⟨rfl,g1⟩
 have B1:=bn (w:=w) bel g1
 clear g1
 go_wp2
 go_ret2
 exact ⟨rfl,bel⟩
end Go.Proofs.YtopfedbhkfdjkaaGreatDoor


/- rational: Compare. -/
namespace Go.Proofs.YtopfedbhkfdjkaaGreatDoor
open Go Go.RowKit
def rcmp (x y : Rat) : Int:=if x<y then -1 else if x=y then 0 else 1
theorem rcmp_self (x : Rat) : rcmp x x=0:=by
 unfold rcmp
 rw [if_neg (Rat.lt_irrefl),if_pos rfl]
theorem sgn_range (z : Int) : -1≤sgn z∧sgn z≤1:=by
 unfold sgn
 split
 ·omega
 ·split<;>omega
theorem rcmp_cross (x y : Rat) : rcmp x y=icmp (x.num * y.den) (y.num * x.den):=by
 unfold rcmp icmp sgn
 have h1:=Rat.lt_iff x y
 have h2 : x=y↔x.num * y.den=y.num * x.den:=by
  constructor
  ·rintro rfl; rfl
  ·intro e
   have e2:=(Rat.divInt_eq_divInt_iff (n₁:=x.num) (d₁:=x.den) (n₂:=y.num) (d₂:=y.den) (by have:=x.den_nz; omega) (by have:=y.den_nz; omega)).2 e
   rwa [Rat.num_divInt_den,Rat.num_divInt_den] at e2
 by_cases a : x<y
 ·have:=h1.1 a
  rw [if_pos a,if_neg (by omega),if_pos (by omega)]
 ·have a' : ¬ x.num * y.den<y.num * x.den:=fun h=>a (h1.2 h)
  rw [if_neg a]
  by_cases b : x=y
  ·have:=h2.1 b
   rw [if_pos b,if_pos (by omega)]
  ·have : ¬ x.num * y.den=y.num * x.den:=fun h=>b (h2.2 h)
   rw [if_neg b,if_neg (by omega),if_neg (by omega)]
theorem rcmp_signs (x y : Rat) (h : sgn x.num≠sgn y.num) : rcmp x y=max (-1) (min (sgn x.num - sgn y.num) 1):=by
 rw [rcmp_cross]
 unfold icmp
 have hd:=x.den_pos
 have hd2:=y.den_pos
 have f : ∀ (a : Int) (d : Nat),0<d→sgn (a * d)=sgn a:=by
  intro a d hd
  unfold sgn
  have h0 : a * (d : Int)=0↔a=0:=by
   constructor
   ·intro e
    rcases Int.mul_eq_zero.1 e with h | h
    ·exact h
    ·omega
   ·rintro rfl; simp
  have h1 : a * (d : Int)<0↔a<0:=by
   constructor
   ·intro e
    refine Decidable.byContradiction fun h=>?_
    have:=Int.mul_nonneg (show 0≤a by omega) (Int.natCast_nonneg d)
    omega
   ·intro e
    exact Int.mul_neg_of_neg_of_pos e (by omega)
  simp only [h0,h1]
 have h1:=f x.num y.den hd2
 have h2:=f y.num x.den hd
 generalize x.num * (y.den : Int)=u at *
 generalize y.num * (x.den : Int)=v at *
 rw [← h1,← h2] at h ⊢
 unfold sgn at *
 omega
set_option maxHeartbeats 1000000 in
theorem rcomp_same (x : Rat) (hx : rz x≤10000000) (w : World) (hB : Bw w) :
  Calls Tryz.prog 57 #[.string (rtx x),.string (rtx x)] w fun e w'=>e=.returned (.tuple #[.int .i64 0,.int .i64 0])∧Below w.heap.size w w':=by
 have H1:=Lib.hid (fun w hB=>rboth_walk x x hx hx w hB)
 obtain ⟨s1,t1,e1⟩:=FV_shape x
 rw [e1] at H1
 clear e1 hx
 generalize rtx x=xs at *
 go_enter Tryz.func57,Tryz.ntmps57
 go_wp2_with fail
 refine (H1.out _ (hB.below bel)).mono ?_
 rintro e w1 ⟨rfl,g1⟩
 have B1:=bn (w:=w) bel g1
 clear g1
 go_wp2
 go_ret2
 exact ⟨rfl,bel⟩
set_option maxHeartbeats 1000000 in
theorem rcomp_sign (x y : Rat) (hne : x≠y) (h : sgn x.num≠sgn y.num) (hx : rz x≤10000000) (hy : rz y≤10000000) (w : World) (hB : Bw w) :
  Calls Tryz.prog 57 #[.string (rtx x),.string (rtx y)] w fun e w'=>e=.returned (.tuple #[.int .i64 (rcmp x y),.int .i64 0])∧Below w.heap.size w w':=by
 rw [rcmp_signs x y h]
 have H1:=Lib.hid (fun w hB=>rboth_walk x y hx hy w hB)
 have H2:=Lib.hid (fun w=>rsign_walk x (by omega) w)
 have H3:=Lib.hid (fun w=>rsign_walk y (by omega) w)
 have hst : ((rtx x).toList == (rtx y).toList)=false:=beq_eq_false_iff_ne.2 fun e=>hne (rtoa_inj (by rwa [ByteArray.toList_eq,ByteArray.toList_eq,rtx_toList,rtx_toList] at e))
 have r1:=sgn_range x.num
 have r2:=sgn_range y.num
 have hq : (sgn x.num == sgn y.num)=false:=beq_eq_false_iff_ne.2 h
 have hxy : FV x≠FV y:=fun e=>hne (by
  rw [FV_eq,FV_eq] at e
  simp only [Value.agg.injEq,Array.mk.injEq,List.cons.injEq,Value.string.injEq] at e
  exact Rat.ext (itx_inj e.1) (dec_inj e.2.1))
 obtain ⟨s1,t1,e1⟩:=FV_shape x
 obtain ⟨s2,t2,e2⟩:=FV_shape y
 rw [e1,e2] at H1 hxy
 rw [e1] at H2
 rw [e2] at H3
 clear e1 e2 hx hy hne h
 generalize rtx x=xs at *
 generalize rtx y=ys at *
 generalize sgn x.num=sx at *
 generalize sgn y.num=sy at *
 obtain ⟨r1a,r1b⟩:=r1
 obtain ⟨r2a,r2b⟩:=r2
 have HXY:=Lib.hid hxy
 clear hxy
 go_enter Tryz.func57,Tryz.ntmps57
 go_wp2_with fail
 refine (H1.out _ (hB.below bel)).mono ?_
 rintro e w1 ⟨rfl,g1⟩
 have B1:=bn (w:=w) bel g1
 clear g1
 go_wp2
 go_region_held3 (fun w'=>w'.cell? ⟨w1.heap.size,0,none⟩=some (.string s1)∧w'.cell? ⟨w1.heap.size,1,none⟩=some (.string t1)∧w'.cell? ⟨w1.heap.size+1,0,none⟩=some (.string s2)∧w'.cell? ⟨w1.heap.size+1,1,none⟩=some (.string t2)∧Below w.heap.size w w')
  ((go_split_ands; refine ⟨?_, ?_, ?_, ?_, ?_⟩<;>first | (go_simp; done) | (exact bcs g2) | (exact bn bel g2) | exact bel))
  (first | (go_at_call_of 94 (Value.agg #[.string s1,.string t1]); refine (H2.out _).mono ?_; rintro e w2 ⟨rfl,g2⟩) | (go_at_call_of 94 (Value.agg #[.string s2,.string t2]); refine (H3.out _).mono ?_; rintro e w2 ⟨rfl,g2⟩))
 all_goals
  go_split_ands
  go_wp2
  go_ret2
  exact ⟨rfl,bel⟩
set_option maxHeartbeats 1000000 in
theorem rcomp_cross (x y : Rat) (hne : x≠y) (h : sgn x.num=sgn y.num) (hx : rz x≤10000000) (hy : rz y≤10000000) (w : World) (hB : Bw w) :
  Calls Tryz.prog 57 #[.string (rtx x),.string (rtx y)] w fun e w'=>e=.returned (.tuple #[.int .i64 (rcmp x y),.int .i64 0])∧Below w.heap.size w w':=by
 rw [rcmp_cross x y]
 have n1:=rz_num x
 have n2:=rz_num y
 have n3:=rz_den x
 have n4:=rz_den y
 have H1:=Lib.hid (fun w hB=>rboth_walk x y hx hy w hB)
 have H2:=Lib.hid (fun w=>rsign_walk x (by omega) w)
 have H3:=Lib.hid (fun w=>rsign_walk y (by omega) w)
 have HA:=Lib.hid (fun w hB=>iMul_walk x.num (y.den : Int) (by omega) (by rw [Int.natAbs_natCast]; omega) w hB)
 have HC:=Lib.hid (fun w hB=>iMul_walk y.num (x.den : Int) (by omega) (by rw [Int.natAbs_natCast]; omega) w hB)
 have k1 : dg (x.num * y.den).natAbs≤40000000:=by have:=dg_mul x.num.natAbs y.den; rw [Int.natAbs_mul,Int.natAbs_natCast]; omega
 have k2 : dg (y.num * x.den).natAbs≤40000000:=by have:=dg_mul y.num.natAbs x.den; rw [Int.natAbs_mul,Int.natAbs_natCast]; omega
 have HD:=Lib.hid (fun w hB=>iCompare_walk (x.num * y.den) (y.num * x.den) (by omega) (by omega) w hB)
 rw [itx_nat] at HA HC
 have hst : ((rtx x).toList == (rtx y).toList)=false:=beq_eq_false_iff_ne.2 fun e=>hne (rtoa_inj (by rwa [ByteArray.toList_eq,ByteArray.toList_eq,rtx_toList,rtx_toList] at e))
 rw [← h] at H3
 have hne2 : FV x≠FV y:=fun e=>hne (by
  rw [FV_eq,FV_eq] at e
  simp only [Value.agg.injEq,Array.mk.injEq,List.cons.injEq,Value.string.injEq] at e
  exact Rat.ext (itx_inj e.1) (dec_inj e.2.1))
 rw [FV_eq x] at H1 H2 hne2
 rw [FV_eq y] at H1 H3 hne2
 clear hx hy hne h n1 n2 n3 n4 k1 k2
 generalize rtx x=xs at *
 generalize rtx y=ys at *
 generalize sgn x.num=sx at *
 generalize itx (x.num * y.den)=u1 at *
 generalize itx (y.num * x.den)=u2 at *
 generalize icmp (x.num * y.den) (y.num * x.den)=rs at *
 generalize itx x.num=s1 at *
 generalize itx y.num=s2 at *
 generalize dec x.den=t1 at *
 generalize dec y.den=t2 at *
 have HNE:=Lib.hid hne2
 clear hne2
 go_enter Tryz.func57,Tryz.ntmps57
 go_wp2_with fail
 refine (H1.out _ (hB.below bel)).mono ?_
 rintro e w1 ⟨rfl,g1⟩
 have B1:=bn (w:=w) bel g1
 clear g1
 go_wp2
 go_region_held3 (fun w'=>w'.cell? ⟨w1.heap.size,0,none⟩=some (.string s1)∧w'.cell? ⟨w1.heap.size,1,none⟩=some (.string t1)∧w'.cell? ⟨w1.heap.size+1,0,none⟩=some (.string s2)∧w'.cell? ⟨w1.heap.size+1,1,none⟩=some (.string t2)∧w1.heap.size+1<w'.heap.size∧Below w.heap.size w w')
  ((go_split_ands; refine ⟨?_, ?_, ?_, ?_, ?_, ?_⟩<;>first | (go_simp; done) | (exact bcs g2) | (exact Nat.lt_of_lt_of_le (by first | with_reducible assumption | go_simp) g2.size) | (exact bn bel g2) | exact bel))
  (first | (go_at_call_of 94 (Value.agg #[.string s1,.string t1]); refine (H2.out _).mono ?_; rintro e w2 ⟨rfl,g2⟩) | (go_at_call_of 94 (Value.agg #[.string s2,.string t2]); refine (H3.out _).mono ?_; rintro e w2 ⟨rfl,g2⟩))
 all_goals
  go_split_ands
  go_wp2_with fail
  refine (HA.out _ (hB.below bel)).mono ?_
  rintro e w3 ⟨rfl,g3⟩
  have k1:=bc (b:=w1.heap.size) (o:=1) (v:=.string t1) g3 (by first | with_reducible assumption | go_simp)
  have k2:=bc (b:=w1.heap.size+1) (o:=0) (v:=.string s2) g3 (by first | with_reducible assumption | go_simp)
  have B3:=bn (w:=w) bel g3
  clear g3
  go_wp2_with fail
  refine (HC.out _ (hB.below bel)).mono ?_
  rintro e w4 ⟨rfl,g4⟩
  have B4:=bn (w:=w) bel g4
  clear g4
  go_wp2_with fail
  refine (HD.out _ (hB.below bel)).mono ?_
  rintro e w5 ⟨rfl,g5⟩
  have B5:=bn (w:=w) bel g5
  clear g5
  go_wp2
  go_ret2
  exact ⟨rfl,bel⟩
theorem rCompare_walk (x y : Rat) (hx : rz x≤10000000) (hy : rz y≤10000000) (w : World) (hB : Bw w) :
  Calls Tryz.prog 57 #[.string (rtx x),.string (rtx y)] w fun e w'=>e=.returned (.tuple #[.int .i64 (rcmp x y),.int .i64 0])∧Below w.heap.size w w':=by
 by_cases h : x=y
 ·subst h
  rw [rcmp_self]
  exact rcomp_same x hx w hB
 ·by_cases hs : sgn x.num=sgn y.num
  ·exact rcomp_cross x y h hs hx hy w hB
  ·exact rcomp_sign x y h hs hx hy w hB
end Go.Proofs.YtopfedbhkfdjkaaGreatDoor
