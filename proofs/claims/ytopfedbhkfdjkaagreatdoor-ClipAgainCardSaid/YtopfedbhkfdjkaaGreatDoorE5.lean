
/- integer: zero, with, text, opposite, sign. -/
import Derived.Deep.QuietTactic
import Derived.BigQuiet
import Derived.Deep.RegionHeld3
import Derived.OwnWalk
import Derived.Test.YtopfedbhkfdjkaaGreatDoorE4
import Derived.Laws.EntriesVeiled
set_option linter.unusedVariables false
set_option linter.unusedSimpArgs false
namespace Go.Proofs.YtopfedbhkfdjkaaGreatDoor
open Go Go.RowKit
def IV (z : Int) : Value:=.agg #[.bool (decide (z<0)),.string (dec z.natAbs)]
set_option maxHeartbeats 400000 in
theorem zero_walk (w : World) :
  Calls Tryz.prog 173 #[] w fun e w'=>e=.returned (IV 0)∧Below w.heap.size w w':=by
 have e0 : IV 0=.agg #[.bool false,.string ⟨#[48]⟩]:=by
  show Value.agg #[.bool false,.string (dec 0)]=_
  rw [dec_zero]
 rw [e0]
 go_enter Tryz.func173,Tryz.ntmps173
 go_wp2
 refine bodyPost_ret (v:=.agg #[.bool false,.string ⟨#[48]⟩]) (by simp [results,Tryz.results173,go_sem]) rfl ⟨rfl, ?_⟩
 exact (Below.refl _ _).alloc (Nat.le_refl _) _
theorem zero_lit (w : World) :
  Calls Tryz.prog 173 #[] w fun e w'=>e=.returned (.agg #[.bool false,.string ⟨#[48]⟩])∧Below w.heap.size w w':=by
 have e0 : IV 0=.agg #[.bool false,.string ⟨#[48]⟩]:=by
  show Value.agg #[.bool false,.string (dec 0)]=_
  rw [dec_zero]
 rw [← e0]
 exact zero_walk w
theorem ret_str {a b : ByteArray} (h : a=b) : Ending.returned (.string a)=.returned (.string b):=by rw [h]
theorem toList_48 (d : ByteArray) : d.toList=[48]↔d=⟨#[48]⟩:=by
 rw [ByteArray.toList_eq]
 exact ⟨fun e=>ba_ext e,fun e=>by rw [e]⟩
def sgnI (b : Bool) (n : Nat) : Int:=if b then -(n : Int) else n
theorem IV_sgnI (b : Bool) (n : Nat) : IV (sgnI b n)=.agg #[.bool (b && decide (n≠0)),.string (dec n)]:=by
 unfold IV sgnI
 cases b
 ·simp
 ·by_cases h : n=0
  ·subst h; simp
  ·simp [h]; omega
set_option maxHeartbeats 400000 in
theorem with_walk (b : Bool) (n : Nat) (w : World) :
  Calls Tryz.prog 175 #[.bool b,.string (dec n)] w fun e w'=>e=.returned (IV (sgnI b n))∧Below w.heap.size w w':=by
 rw [IV_sgnI]
 have hd : (dec n).toList=[48]↔n=0:=by rw [toList_48,dec_eq_zero]
 generalize dec n=d at *
 by_cases h0 : n=0
 ·have hde : d.toList=[48]:=hd.2 h0
  have hde2 : decide (n≠0)=false:=by simp [h0]
  rw [hde2]
  clear hd h0 hde2
  cases b
  ·go_enter Tryz.func175,Tryz.ntmps175
   go_wp2
   refine bodyPost_ret (v:=.agg #[.bool false,.string d]) (by simp [results,Tryz.results175,go_sem]) rfl ⟨rfl, ?_⟩
   exact (Below.refl _ _).alloc (Nat.le_refl _) _
  ·go_enter Tryz.func175,Tryz.ntmps175
   go_wp2
   refine bodyPost_ret (v:=.agg #[.bool false,.string d]) (by simp [results,Tryz.results175,go_sem]) rfl ⟨rfl, ?_⟩
   exact (Below.refl _ _).alloc (Nat.le_refl _) _
 ·have hde : ¬ d.toList=[48]:=fun e=>h0 (hd.1 e)
  have hde2 : decide (n≠0)=true:=by simp [h0]
  rw [hde2]
  clear hd h0 hde2
  cases b
  ·go_enter Tryz.func175,Tryz.ntmps175
   go_wp2
   refine bodyPost_ret (v:=.agg #[.bool false,.string d]) (by simp [results,Tryz.results175,go_sem]) rfl ⟨rfl, ?_⟩
   exact (Below.refl _ _).alloc (Nat.le_refl _) _
  ·go_enter Tryz.func175,Tryz.ntmps175
   go_wp2
   refine bodyPost_ret (v:=.agg #[.bool true,.string d]) (by simp [results,Tryz.results175,go_sem,hde]) rfl ⟨rfl, ?_⟩
   exact (Below.refl _ _).alloc (Nat.le_refl _) _
set_option maxHeartbeats 400000 in
theorem itext_walk (z : Int) (hz : (dec z.natAbs).size≤1000000000) (w : World) :
  Calls Tryz.prog 143 #[IV z] w fun e w'=>e=.returned (.string (itx z))∧Below w.heap.size w w':=by
 rw [itx_dec]
 unfold IV
 by_cases h : z<0
 ·rw [if_pos h,decide_eq_true h]
  generalize dec z.natAbs=d at *
  clear h
  go_enter Tryz.func143,Tryz.ntmps143
  go_wp2
  go_ret
  refine ⟨?_,(Below.refl _ _).alloc (Nat.le_refl _) _⟩
  exact ret_str (ba_ext (by simp))
 ·rw [if_neg h,decide_eq_false h]
  generalize dec z.natAbs=d at *
  clear h
  go_enter Tryz.func143,Tryz.ntmps143
  go_wp2
  go_ret
  exact ⟨rfl,(Below.refl _ _).alloc (Nat.le_refl _) _⟩
theorem opp_sgn (z : Int) : sgnI (!decide (z<0)) z.natAbs = -z:=by
 unfold sgnI
 by_cases h : z<0
 ·rw [decide_eq_true h]; simp; omega
 ·rw [decide_eq_false h]; simp; omega
set_option maxHeartbeats 400000 in
theorem opposite_walk (z : Int) (w : World) :
  Calls Tryz.prog 145 #[IV z] w fun e w'=>e=.returned (IV (-z))∧Below w.heap.size w w':=by
 have HO:=Lib.hid (opp_sgn z)
 unfold IV
 generalize hb : decide (z<0)=b at *
 go_enter Tryz.func145,Tryz.ntmps145
 go_wp2_with fail
 refine (with_walk (!b) z.natAbs _).mono ?_
 rintro e w1 ⟨rfl,g1⟩
 rw [HO.out]
 obtain ⟨hc,hf⟩:=bcell g1
 have hz:=g1.size
 have hz2 : w.heap.size+1<w1.heap.size:=by simp at hz; omega
 unfold IV
 go_wp2
 refine bodyPost_ret (v:=.agg #[.bool (decide (-z<0)),.string (dec (-z).natAbs)]) (by simp [results,Tryz.results145,go_sem,hc,hz2]) rfl ⟨rfl, ?_⟩
 exact below_then ((Below.refl _ _).alloc (Nat.le_refl _) _ |>.alloc (by simp) _) (by simp; omega) (g1) |>.setCell (by simp) _ |>.setCell (by simp) _
theorem eql_number (b c : Bool) (s t : ByteArray) : ∀ w,(binOp .eql 214 (.agg #[.bool b,.string s]) (.agg #[.bool c,.string t])).run Tryz.prog w=.ok (.bool (b == c && s.toList == t.toList)) w:=by
 intro w
 go_simp
 by_cases h1 : b=c<;>by_cases h2 : s.toList=t.toList<;>simp [h1,h2]
def sgn (z : Int) : Int:=if z=0 then 0 else if z<0 then -1 else 1
set_option maxHeartbeats 1000000 in
theorem sign_true (d : ByteArray) (r : Bool) (hr : (d.toList == [48])=r) (w : World) :
  Calls Tryz.prog 146 #[.agg #[.bool true,.string d]] w fun e w'=>e=.returned (.int .i64 (if !true && r then 0 else if true then -1 else 1))∧Below w.heap.size w w':=by
 have heq:=eql_number
 cases r
 all_goals
  go_enter Tryz.func146,Tryz.ntmps146
  go_wp2
  go_region_held3 (fun w'=>w'.cell? ⟨w.heap.size,0,none⟩=some (.bool true)∧w'.cell? ⟨w.heap.size,1,none⟩=some (.string d)∧Below w.heap.size w w') (first | exact ⟨by simp,by simp,((Below.refl _ _).alloc (Nat.le_refl _) _).drew⟩ | exact ⟨(hc _ _ (by simp)).trans (by simp),(hc _ _ (by simp)).trans (by simp),below_then ((Below.refl _ _).alloc (Nat.le_refl _) _).drew (by simp) hb1⟩) (first | (go_at_call 173; refine (zero_lit _).mono ?_; rintro e w1 ⟨rfl,hb1⟩; have hc:=(bcell hb1).1))
  have hB:=below_then (((Below.refl w.heap.size w).alloc (Nat.le_refl _) _).drew) (by simp) hb1
  have hc0:=(hc w.heap.size 0 (by simp)).trans (by simp : _=some (Value.bool true))
  clear hc hb1 heq
  go_wp2
  go_ret
  exact ⟨rfl,hB⟩
set_option maxHeartbeats 1000000 in
theorem sign_false (d : ByteArray) (r : Bool) (hr : (d.toList == [48])=r) (w : World) :
  Calls Tryz.prog 146 #[.agg #[.bool false,.string d]] w fun e w'=>e=.returned (.int .i64 (if !false && r then 0 else if false then -1 else 1))∧Below w.heap.size w w':=by
 have heq:=eql_number
 cases r
 all_goals
  go_enter Tryz.func146,Tryz.ntmps146
  go_wp2
  go_region_held3 (fun w'=>w'.cell? ⟨w.heap.size,0,none⟩=some (.bool false)∧w'.cell? ⟨w.heap.size,1,none⟩=some (.string d)∧Below w.heap.size w w') (first | exact ⟨by simp,by simp,((Below.refl _ _).alloc (Nat.le_refl _) _).drew⟩ | exact ⟨(hc _ _ (by simp)).trans (by simp),(hc _ _ (by simp)).trans (by simp),below_then ((Below.refl _ _).alloc (Nat.le_refl _) _).drew (by simp) hb1⟩) (first | (go_at_call 173; refine (zero_lit _).mono ?_; rintro e w1 ⟨rfl,hb1⟩; have hc:=(bcell hb1).1))
  have hB:=below_then (((Below.refl w.heap.size w).alloc (Nat.le_refl _) _).drew) (by simp) hb1
  have hc0:=(hc w.heap.size 0 (by simp)).trans (by simp : _=some (Value.bool false))
  clear hc hb1 heq
  go_wp2
  go_ret
  exact ⟨rfl,hB⟩
theorem sign_at (b : Bool) (d : ByteArray) (r : Bool) (hr : (d.toList == [48])=r) (w : World) :
  Calls Tryz.prog 146 #[.agg #[.bool b,.string d]] w fun e w'=>e=.returned (.int .i64 (if !b && r then 0 else if b then -1 else 1))∧Below w.heap.size w w':=by
 cases b
 ·exact sign_false d r hr w
 ·exact sign_true d r hr w
theorem sign_walk (z : Int) (w : World) :
  Calls Tryz.prog 146 #[IV z] w fun e w'=>e=.returned (.int .i64 (sgn z))∧Below w.heap.size w w':=by
 have h:=sign_at (decide (z<0)) (dec z.natAbs) (decide (z.natAbs=0)) (by rw [ByteArray.toList_eq,dec_toList,decDigits_eq_zero]) w
 have e : (if !decide (z<0) && decide (z.natAbs=0) then (0 : Int) else if decide (z<0) then -1 else 1)=sgn z:=by
  unfold sgn
  by_cases h0 : z=0
  ·subst h0; rfl
  ·have h1 : ¬ z.natAbs=0:=by omega
   by_cases h2 : z<0<;>simp [h0,h1,h2]
 rw [e] at h
 exact h
end Go.Proofs.YtopfedbhkfdjkaaGreatDoor


/- integer: bit, sum, difference, times. -/
namespace Go.Proofs.YtopfedbhkfdjkaaGreatDoor
open Go Go.RowKit
set_option maxHeartbeats 400000 in
theorem bit_walk (b : Bool) (w : World) :
  Calls Tryz.prog 178 #[.bool b] w fun e w'=>e=.returned (.int .i64 (if b then 1 else 0))∧w'=w:=by
 cases b
 all_goals
  go_enter Tryz.func178,Tryz.ntmps178
  go_wp2
  go_ret
  exact ⟨rfl,rfl⟩
theorem IV_eq (z : Int) : IV z=.agg #[.bool (decide (z<0)),.string (dec z.natAbs)]:=rfl
theorem IV_get (b : Bool) (n : Nat) : ∃ c d,IV (sgnI b n)=.agg #[.bool c,.string d]:=⟨_,_,rfl⟩
set_option maxHeartbeats 1000000 in
theorem sum_walk (x y : Int) (hx : dg x.natAbs≤50000000) (hy : dg y.natAbs≤50000000) (w : World) (hB : Bw w) :
  Calls Tryz.prog 176 #[IV x,IV y] w fun e w'=>e=.returned (IV (sgnI (decide (x<0)) (x.natAbs+y.natAbs)))∧Below w.heap.size w w':=by
 rw [IV_eq,IV_eq]
 have H1:=Lib.hid (show (dec x.natAbs).size≤100000000 by have:=dg_def x.natAbs; omega)
 have H2:=Lib.hid (show (dec y.natAbs).size≤100000000 by have:=dg_def y.natAbs; omega)
 have H3:=Lib.hid (show (wds (x.natAbs+y.natAbs)).length≤100000000 by have:=wds_le_dg (x.natAbs+y.natAbs); have:=dg_add x.natAbs y.natAbs; omega)
 generalize decide (x<0)=b at *
 generalize decide (y<0)=c at *
 generalize x.natAbs=n at *
 generalize y.natAbs=m at *
 clear hx hy
 go_enter Tryz.func176,Tryz.ntmps176
 go_wp2_with fail
 refine (natAdd_walk n m H1.out H2.out H3.out _ (hB.below (ba (ba (ba (br w)))))).mono ?_
 rintro e w1 ⟨rfl,g1⟩
 obtain ⟨hc1,hf1⟩:=bcell g1
 have hz1 : w.heap.size+2<w1.heap.size:=hzs g1
 have hz1_0 : w.heap.size<w1.heap.size:=by omega
 have hz1_1 : w.heap.size+1<w1.heap.size:=by omega
 have B1:=bn (w:=w) bel g1
 clear g1
 go_wp2_with fail
 refine (with_walk b (n+m) w1).mono ?_
 rintro e w2 ⟨rfl,g2⟩
 obtain ⟨hc2,hf2⟩:=bcell g2
 have hz2 : w.heap.size+2<w2.heap.size:=hzs g2
 have hz2_0 : w.heap.size<w2.heap.size:=by omega
 have hz2_1 : w.heap.size+1<w2.heap.size:=by omega
 have B2:=bn (w:=w) bel g2
 clear g2
 obtain ⟨c',d',hI⟩:=IV_get b (n+m)
 rw [hI]
 go_wp2
 refine bodyPost_ret (v:=.agg #[.bool c',.string d']) (by simp [results,Tryz.results176,go_sem, *]) rfl ⟨(by first | rfl | rw [hI]),bel⟩
set_option maxHeartbeats 1000000 in
theorem itimes_walk (x y : Int) (hx : dg x.natAbs≤50000000) (hy : dg y.natAbs≤50000000) (w : World) (hB : Bw w) :
  Calls Tryz.prog 142 #[IV x,IV y] w fun e w'=>e=.returned (IV (x * y))∧Below w.heap.size w w':=by
 have HX : Hid (sgnI (decide (x<0) != decide (y<0)) (x.natAbs * y.natAbs)=x * y):=Lib.hid (by
  unfold sgnI
  rw [Int.natCast_mul]
  by_cases h1 : x<0<;>by_cases h2 : y<0
  ·rw [decide_eq_true h1,decide_eq_true h2]
   simp only [bne_self_eq_false,if_false,Bool.false_eq_true]
   rw [show (x.natAbs : Int) = -x by omega,show (y.natAbs : Int) = -y by omega,Int.neg_mul_neg]
  ·rw [decide_eq_true h1,decide_eq_false h2]
   rw [show (x.natAbs : Int) = -x by omega,show (y.natAbs : Int)=y by omega]
   simp [Int.neg_mul]
  ·rw [decide_eq_false h1,decide_eq_true h2]
   rw [show (x.natAbs : Int)=x by omega,show (y.natAbs : Int) = -y by omega]
   simp [Int.mul_neg]
  ·rw [decide_eq_false h1,decide_eq_false h2]
   rw [show (x.natAbs : Int)=x by omega,show (y.natAbs : Int)=y by omega]
   simp)
 rw [← HX.out]
 rw [IV_eq,IV_eq]
 have H1:=Lib.hid (show (dec x.natAbs).size≤100000000 by have:=dg_def x.natAbs; omega)
 have H2:=Lib.hid (show (dec y.natAbs).size≤100000000 by have:=dg_def y.natAbs; omega)
 have H3:=Lib.hid (show (wds (x.natAbs * y.natAbs)).length≤100000000 by have:=wds_le_dg (x.natAbs * y.natAbs); have:=dg_mul x.natAbs y.natAbs; omega)
 clear HX
 generalize decide (x<0)=b at *
 generalize decide (y<0)=c at *
 generalize x.natAbs=n at *
 generalize y.natAbs=m at *
 clear hx hy
 go_enter Tryz.func142,Tryz.ntmps142
 go_wp2_with fail
 refine (natMul_walk n m H1.out H2.out H3.out _ (hB.below bel)).mono ?_
 rintro e w1 ⟨rfl,g1⟩
 obtain ⟨hc1,hf1⟩:=bcell g1
 have hz1 : w.heap.size+2<w1.heap.size:=hzs g1
 have hz1_0 : w.heap.size<w1.heap.size:=by omega
 have hz1_1 : w.heap.size+1<w1.heap.size:=by omega
 have B1:=bn (w:=w) bel g1
 clear g1
 go_wp2_with fail
 refine (with_walk (b != c) (n * m) w1).mono ?_
 rintro e w2 ⟨rfl,g2⟩
 obtain ⟨hc2,hf2⟩:=bcell g2
 have hz2 : w.heap.size+2<w2.heap.size:=hzs g2
 have hz2_0 : w.heap.size<w2.heap.size:=by omega
 have hz2_1 : w.heap.size+1<w2.heap.size:=by omega
 have B2:=bn (w:=w) bel g2
 clear g2
 obtain ⟨c',d',hI⟩:=IV_get (b != c) (n * m)
 rw [hI]
 go_wp2
 refine bodyPost_ret (v:=.agg #[.bool c',.string d']) (by simp [results,Tryz.results142,go_sem, *]) rfl ⟨(by first | rfl | rw [hI]),bel⟩
theorem cmpN_neg {n m : Nat} (h : n<m) : decide (cmpN n m<0)=true:=by
 refine decide_eq_true ?_
 unfold cmpN
 split<;>(try split)<;>omega
theorem cmpN_nonneg {n m : Nat} (h : m≤n) : decide (cmpN n m<0)=false:=by
 refine decide_eq_false ?_
 unfold cmpN
 split<;>(try split)<;>omega
set_option maxHeartbeats 1000000 in
theorem difference_less (b c : Bool) (n m : Nat) (hlt : n<m) (hx : dg n≤50000000) (hy : dg m≤50000000) (w : World) (hB : Bw w) :
  Calls Tryz.prog 177 #[.agg #[.bool b,.string (dec n)],.agg #[.bool c,.string (dec m)]] w fun e w'=>e=.returned (IV (sgnI c (m - n)))∧Below w.heap.size w w':=by
 have H1:=Lib.hid (show (dec n).size≤100000000 by have:=dg_def n; omega)
 have H2:=Lib.hid (show (dec m).size≤100000000 by have:=dg_def m; omega)
 have H3:=Lib.hid (show (wds (m - n)).length≤100000000 by have:=wds_le_dg (m - n); have:=dg_mono (Nat.sub_le m n); omega)
 have hcm:=cmpN_neg hlt
 have HL:=Lib.hid (Nat.le_of_lt hlt)
 clear hx hy hlt
 go_enter Tryz.func177,Tryz.ntmps177
 go_wp2_with fail
 refine (natCompare_walk n m H1.out H2.out _).mono ?_
 rintro e w1 ⟨rfl,g1⟩
 have hz1 : w.heap.size+2<w1.heap.size:=hzs g1
 have hz1_0 : w.heap.size<w1.heap.size:=by omega
 have hz1_1 : w.heap.size+1<w1.heap.size:=by omega
 have B1:=bn (w:=w) bel g1
 have c1_0_0:=bcv g1 w.heap.size 0 (.bool b)
 have f1_0_0:=bfv g1 w.heap.size 0
 have c1_0_1:=bcv g1 w.heap.size 1 (.string (dec n))
 have f1_0_1:=bfv g1 w.heap.size 1
 have c1_1_0:=bcv g1 (w.heap.size+1) 0 (.bool c)
 have f1_1_0:=bfv g1 (w.heap.size+1) 0
 have c1_1_1:=bcv g1 (w.heap.size+1) 1 (.string (dec m))
 have f1_1_1:=bfv g1 (w.heap.size+1) 1
 have c1_2_0:=bcv g1 (w.heap.size+1+1) 0 (.bool false)
 have f1_2_0:=bfv g1 (w.heap.size+1+1) 0
 have c1_2_1:=bcv g1 (w.heap.size+1+1) 1 (.string ⟨#[]⟩)
 have f1_2_1:=bfv g1 (w.heap.size+1+1) 1
 clear g1
 go_wp2_with fail
 refine (natSub_walk m n HL.out H2.out H1.out H3.out _ (hB.below bel)).mono ?_
 rintro e w2 ⟨rfl,g2⟩
 have hz2 : w.heap.size+2<w2.heap.size:=hzs g2
 have hz2_0 : w.heap.size<w2.heap.size:=by omega
 have hz2_1 : w.heap.size+1<w2.heap.size:=by omega
 have B2:=bn (w:=w) bel g2
 have c2_0_0:=bcv g2 w.heap.size 0 (.bool c)
 have f2_0_0:=bfv g2 w.heap.size 0
 have c2_0_1:=bcv g2 w.heap.size 1 (.string (dec m))
 have f2_0_1:=bfv g2 w.heap.size 1
 have c2_1_0:=bcv g2 (w.heap.size+1) 0 (.bool b)
 have f2_1_0:=bfv g2 (w.heap.size+1) 0
 have c2_1_1:=bcv g2 (w.heap.size+1) 1 (.string (dec n))
 have f2_1_1:=bfv g2 (w.heap.size+1) 1
 have c2_2_0:=bcv g2 (w.heap.size+1+1) 0 (.bool false)
 have f2_2_0:=bfv g2 (w.heap.size+1+1) 0
 have c2_2_1:=bcv g2 (w.heap.size+1+1) 1 (.string ⟨#[]⟩)
 have f2_2_1:=bfv g2 (w.heap.size+1+1) 1
 clear g2
 go_wp2_with fail
 refine (with_walk c (m - n) w2).mono ?_
 rintro e w3 ⟨rfl,g3⟩
 have hz3 : w.heap.size+2<w3.heap.size:=hzs g3
 have hz3_0 : w.heap.size<w3.heap.size:=by omega
 have hz3_1 : w.heap.size+1<w3.heap.size:=by omega
 have B3:=bn (w:=w) bel g3
 have c3_2_0:=bcv g3 (w.heap.size+1+1) 0 (.bool false)
 have f3_2_0:=bfv g3 (w.heap.size+1+1) 0
 have c3_2_1:=bcv g3 (w.heap.size+1+1) 1 (.string ⟨#[]⟩)
 have f3_2_1:=bfv g3 (w.heap.size+1+1) 1
 clear g3
 obtain ⟨c',d',hI⟩:=IV_get c (m - n)
 rw [hI]
 go_wp2
 refine bodyPost_ret (v:=.agg #[.bool c',.string d']) (by simp [results,Tryz.results177,go_sem, *]) rfl ⟨(by first | rfl | rw [hI]),bel⟩
set_option maxHeartbeats 1000000 in
theorem difference_more (b c : Bool) (n m : Nat) (hlt : m≤n) (hx : dg n≤50000000) (hy : dg m≤50000000) (w : World) (hB : Bw w) :
  Calls Tryz.prog 177 #[.agg #[.bool b,.string (dec n)],.agg #[.bool c,.string (dec m)]] w fun e w'=>e=.returned (IV (sgnI b (n - m)))∧Below w.heap.size w w':=by
 have H1:=Lib.hid (show (dec n).size≤100000000 by have:=dg_def n; omega)
 have H2:=Lib.hid (show (dec m).size≤100000000 by have:=dg_def m; omega)
 have H3:=Lib.hid (show (wds (n - m)).length≤100000000 by have:=wds_le_dg (n - m); have:=dg_mono (Nat.sub_le n m); omega)
 have hcm:=cmpN_nonneg hlt
 have HL:=Lib.hid hlt
 clear hx hy hlt
 go_enter Tryz.func177,Tryz.ntmps177
 go_wp2_with fail
 refine (natCompare_walk n m H1.out H2.out _).mono ?_
 rintro e w1 ⟨rfl,g1⟩
 have hz1 : w.heap.size+2<w1.heap.size:=hzs g1
 have hz1_0 : w.heap.size<w1.heap.size:=by omega
 have hz1_1 : w.heap.size+1<w1.heap.size:=by omega
 have B1:=bn (w:=w) bel g1
 have c1_0_0:=bcv g1 w.heap.size 0 (.bool b)
 have f1_0_0:=bfv g1 w.heap.size 0
 have c1_0_1:=bcv g1 w.heap.size 1 (.string (dec n))
 have f1_0_1:=bfv g1 w.heap.size 1
 have c1_1_0:=bcv g1 (w.heap.size+1) 0 (.bool c)
 have f1_1_0:=bfv g1 (w.heap.size+1) 0
 have c1_1_1:=bcv g1 (w.heap.size+1) 1 (.string (dec m))
 have f1_1_1:=bfv g1 (w.heap.size+1) 1
 have c1_2_0:=bcv g1 (w.heap.size+1+1) 0 (.bool false)
 have f1_2_0:=bfv g1 (w.heap.size+1+1) 0
 have c1_2_1:=bcv g1 (w.heap.size+1+1) 1 (.string ⟨#[]⟩)
 have f1_2_1:=bfv g1 (w.heap.size+1+1) 1
 clear g1
 go_wp2_with fail
 refine (natSub_walk n m HL.out H1.out H2.out H3.out _ (hB.below bel)).mono ?_
 rintro e w2 ⟨rfl,g2⟩
 have hz2 : w.heap.size+2<w2.heap.size:=hzs g2
 have hz2_0 : w.heap.size<w2.heap.size:=by omega
 have hz2_1 : w.heap.size+1<w2.heap.size:=by omega
 have B2:=bn (w:=w) bel g2
 have c2_0_0:=bcv g2 w.heap.size 0 (.bool b)
 have f2_0_0:=bfv g2 w.heap.size 0
 have c2_0_1:=bcv g2 w.heap.size 1 (.string (dec n))
 have f2_0_1:=bfv g2 w.heap.size 1
 have c2_1_0:=bcv g2 (w.heap.size+1) 0 (.bool c)
 have f2_1_0:=bfv g2 (w.heap.size+1) 0
 have c2_1_1:=bcv g2 (w.heap.size+1) 1 (.string (dec m))
 have f2_1_1:=bfv g2 (w.heap.size+1) 1
 have c2_2_0:=bcv g2 (w.heap.size+1+1) 0 (.bool false)
 have f2_2_0:=bfv g2 (w.heap.size+1+1) 0
 have c2_2_1:=bcv g2 (w.heap.size+1+1) 1 (.string ⟨#[]⟩)
 have f2_2_1:=bfv g2 (w.heap.size+1+1) 1
 clear g2
 go_wp2_with fail
 refine (with_walk b (n - m) w2).mono ?_
 rintro e w3 ⟨rfl,g3⟩
 have hz3 : w.heap.size+2<w3.heap.size:=hzs g3
 have hz3_0 : w.heap.size<w3.heap.size:=by omega
 have hz3_1 : w.heap.size+1<w3.heap.size:=by omega
 have B3:=bn (w:=w) bel g3
 have c3_2_0:=bcv g3 (w.heap.size+1+1) 0 (.bool false)
 have f3_2_0:=bfv g3 (w.heap.size+1+1) 0
 have c3_2_1:=bcv g3 (w.heap.size+1+1) 1 (.string ⟨#[]⟩)
 have f3_2_1:=bfv g3 (w.heap.size+1+1) 1
 clear g3
 obtain ⟨c',d',hI⟩:=IV_get b (n - m)
 rw [hI]
 go_wp2
 refine bodyPost_ret (v:=.agg #[.bool c',.string d']) (by simp [results,Tryz.results177,go_sem, *]) rfl ⟨(by first | rfl | rw [hI]),bel⟩
end Go.Proofs.YtopfedbhkfdjkaaGreatDoor


/- integer: plus. -/
namespace Go.Proofs.YtopfedbhkfdjkaaGreatDoor
open Go Go.RowKit
set_option maxHeartbeats 1000000 in
theorem plus_truetrue (d1 d2 : ByteArray) (c' : Bool) (d' : ByteArray) (w : World) (hc : ∀ W,Below w.heap.size w W→Calls Tryz.prog 176 #[.agg #[.bool true,.string d1],.agg #[.bool true,.string d2]] W fun e W'=>e=.returned (.agg #[.bool c',.string d'])∧Below W.heap.size W W') :
  Calls Tryz.prog 144 #[.agg #[.bool true,.string d1],.agg #[.bool true,.string d2]] w fun e w'=>e=.returned (.agg #[.bool c',.string d'])∧Below w.heap.size w w':=by
 have HC:=Lib.hid hc
 clear hc
 go_enter Tryz.func144,Tryz.ntmps144
 go_wp2
 go_region_held3 (fun w'=>w'.cell? ⟨w.heap.size,0,none⟩=some (.bool true)∧w'.cell? ⟨w.heap.size,1,none⟩=some (.string d1)∧w'.cell? ⟨w.heap.size+1,0,none⟩=some (.bool true)∧w'.cell? ⟨w.heap.size+1,1,none⟩=some (.string d2)∧w'.cell? ⟨w.heap.size+1+1+1,3,none⟩=some (.func (.func 176) #[] #[]))
  (refine ⟨?_, ?_, ?_, ?_, ?_⟩<;>first | (go_simp; done) | (exact bc g1 (by go_simp)))
  (first | (go_at_call 178; refine (bit_walk _ _).mono ?_; rintro e w' ⟨rfl,rfl⟩) | (go_at_call 176; refine (HC.out _ bel).mono ?_; rintro e w1 ⟨rfl,g1⟩; have hz1 : w.heap.size+2<w1.heap.size:=hzs g1; have c1_2_0:=bcv g1 (w.heap.size+1+1) 0 (.bool false); have f1_2_0:=bfv g1 (w.heap.size+1+1) 0; have c1_2_1:=bcv g1 (w.heap.size+1+1) 1 (.string ⟨#[]⟩); have f1_2_1:=bfv g1 (w.heap.size+1+1) 1))
 have B1:=bn (w:=w) bel g1
 clear g1
 go_wp2
 refine bodyPost_ret (v:=.agg #[.bool c',.string d']) (by simp [results,Tryz.results144,go_sem, *]) rfl ⟨(by first | rfl | rw [hI]),bel⟩
set_option maxHeartbeats 1000000 in
theorem plus_truefalse (d1 d2 : ByteArray) (c' : Bool) (d' : ByteArray) (w : World) (hc : ∀ W,Below w.heap.size w W→Calls Tryz.prog 177 #[.agg #[.bool true,.string d1],.agg #[.bool false,.string d2]] W fun e W'=>e=.returned (.agg #[.bool c',.string d'])∧Below W.heap.size W W') :
  Calls Tryz.prog 144 #[.agg #[.bool true,.string d1],.agg #[.bool false,.string d2]] w fun e w'=>e=.returned (.agg #[.bool c',.string d'])∧Below w.heap.size w w':=by
 have HC:=Lib.hid hc
 clear hc
 go_enter Tryz.func144,Tryz.ntmps144
 go_wp2
 go_region_held3 (fun w'=>w'.cell? ⟨w.heap.size,0,none⟩=some (.bool true)∧w'.cell? ⟨w.heap.size,1,none⟩=some (.string d1)∧w'.cell? ⟨w.heap.size+1,0,none⟩=some (.bool false)∧w'.cell? ⟨w.heap.size+1,1,none⟩=some (.string d2)∧w'.cell? ⟨w.heap.size+1+1+1,2,none⟩=some (.func (.func 177) #[] #[]))
  (refine ⟨?_, ?_, ?_, ?_, ?_⟩<;>first | (go_simp; done) | (exact bc g1 (by go_simp)))
  (first | (go_at_call 178; refine (bit_walk _ _).mono ?_; rintro e w' ⟨rfl,rfl⟩) | (go_at_call 177; refine (HC.out _ bel).mono ?_; rintro e w1 ⟨rfl,g1⟩; have hz1 : w.heap.size+2<w1.heap.size:=hzs g1; have c1_2_0:=bcv g1 (w.heap.size+1+1) 0 (.bool false); have f1_2_0:=bfv g1 (w.heap.size+1+1) 0; have c1_2_1:=bcv g1 (w.heap.size+1+1) 1 (.string ⟨#[]⟩); have f1_2_1:=bfv g1 (w.heap.size+1+1) 1))
 have B1:=bn (w:=w) bel g1
 clear g1
 go_wp2
 refine bodyPost_ret (v:=.agg #[.bool c',.string d']) (by simp [results,Tryz.results144,go_sem, *]) rfl ⟨(by first | rfl | rw [hI]),bel⟩
set_option maxHeartbeats 1000000 in
theorem plus_falsetrue (d1 d2 : ByteArray) (c' : Bool) (d' : ByteArray) (w : World) (hc : ∀ W,Below w.heap.size w W→Calls Tryz.prog 177 #[.agg #[.bool false,.string d1],.agg #[.bool true,.string d2]] W fun e W'=>e=.returned (.agg #[.bool c',.string d'])∧Below W.heap.size W W') :
  Calls Tryz.prog 144 #[.agg #[.bool false,.string d1],.agg #[.bool true,.string d2]] w fun e w'=>e=.returned (.agg #[.bool c',.string d'])∧Below w.heap.size w w':=by
 have HC:=Lib.hid hc
 clear hc
 go_enter Tryz.func144,Tryz.ntmps144
 go_wp2
 go_region_held3 (fun w'=>w'.cell? ⟨w.heap.size,0,none⟩=some (.bool false)∧w'.cell? ⟨w.heap.size,1,none⟩=some (.string d1)∧w'.cell? ⟨w.heap.size+1,0,none⟩=some (.bool true)∧w'.cell? ⟨w.heap.size+1,1,none⟩=some (.string d2)∧w'.cell? ⟨w.heap.size+1+1+1,1,none⟩=some (.func (.func 177) #[] #[]))
  (refine ⟨?_, ?_, ?_, ?_, ?_⟩<;>first | (go_simp; done) | (exact bc g1 (by go_simp)))
  (first | (go_at_call 178; refine (bit_walk _ _).mono ?_; rintro e w' ⟨rfl,rfl⟩) | (go_at_call 177; refine (HC.out _ bel).mono ?_; rintro e w1 ⟨rfl,g1⟩; have hz1 : w.heap.size+2<w1.heap.size:=hzs g1; have c1_2_0:=bcv g1 (w.heap.size+1+1) 0 (.bool false); have f1_2_0:=bfv g1 (w.heap.size+1+1) 0; have c1_2_1:=bcv g1 (w.heap.size+1+1) 1 (.string ⟨#[]⟩); have f1_2_1:=bfv g1 (w.heap.size+1+1) 1))
 have B1:=bn (w:=w) bel g1
 clear g1
 go_wp2
 refine bodyPost_ret (v:=.agg #[.bool c',.string d']) (by simp [results,Tryz.results144,go_sem, *]) rfl ⟨(by first | rfl | rw [hI]),bel⟩
set_option maxHeartbeats 1000000 in
theorem plus_falsefalse (d1 d2 : ByteArray) (c' : Bool) (d' : ByteArray) (w : World) (hc : ∀ W,Below w.heap.size w W→Calls Tryz.prog 176 #[.agg #[.bool false,.string d1],.agg #[.bool false,.string d2]] W fun e W'=>e=.returned (.agg #[.bool c',.string d'])∧Below W.heap.size W W') :
  Calls Tryz.prog 144 #[.agg #[.bool false,.string d1],.agg #[.bool false,.string d2]] w fun e w'=>e=.returned (.agg #[.bool c',.string d'])∧Below w.heap.size w w':=by
 have HC:=Lib.hid hc
 clear hc
 go_enter Tryz.func144,Tryz.ntmps144
 go_wp2
 go_region_held3 (fun w'=>w'.cell? ⟨w.heap.size,0,none⟩=some (.bool false)∧w'.cell? ⟨w.heap.size,1,none⟩=some (.string d1)∧w'.cell? ⟨w.heap.size+1,0,none⟩=some (.bool false)∧w'.cell? ⟨w.heap.size+1,1,none⟩=some (.string d2)∧w'.cell? ⟨w.heap.size+1+1+1,0,none⟩=some (.func (.func 176) #[] #[]))
  (refine ⟨?_, ?_, ?_, ?_, ?_⟩<;>first | (go_simp; done) | (exact bc g1 (by go_simp)))
  (first | (go_at_call 178; refine (bit_walk _ _).mono ?_; rintro e w' ⟨rfl,rfl⟩) | (go_at_call 176; refine (HC.out _ bel).mono ?_; rintro e w1 ⟨rfl,g1⟩; have hz1 : w.heap.size+2<w1.heap.size:=hzs g1; have c1_2_0:=bcv g1 (w.heap.size+1+1) 0 (.bool false); have f1_2_0:=bfv g1 (w.heap.size+1+1) 0; have c1_2_1:=bcv g1 (w.heap.size+1+1) 1 (.string ⟨#[]⟩); have f1_2_1:=bfv g1 (w.heap.size+1+1) 1))
 have B1:=bn (w:=w) bel g1
 clear g1
 go_wp2
 refine bodyPost_ret (v:=.agg #[.bool c',.string d']) (by simp [results,Tryz.results144,go_sem, *]) rfl ⟨(by first | rfl | rw [hI]),bel⟩
theorem sum_add (x y : Int) (h : decide (x<0)=decide (y<0)) : sgnI (decide (x<0)) (x.natAbs+y.natAbs)=x+y:=by
 unfold sgnI
 have h':=decide_eq_decide.1 h
 by_cases h1 : x<0
 ·rw [decide_eq_true h1,if_pos rfl]; omega
 ·rw [decide_eq_false h1,if_neg (by decide)]; omega
theorem dif_less (x y : Int) (h : decide (x<0)≠decide (y<0)) (hlt : x.natAbs<y.natAbs) : sgnI (decide (y<0)) (y.natAbs - x.natAbs)=x+y:=by
 unfold sgnI
 have h' : ¬ (x<0↔y<0):=fun e=>h (decide_eq_decide.2 e)
 by_cases h1 : y<0
 ·rw [decide_eq_true h1,if_pos rfl]; omega
 ·rw [decide_eq_false h1,if_neg (by decide)]; omega
theorem dif_more (x y : Int) (h : decide (x<0)≠decide (y<0)) (hlt : y.natAbs≤x.natAbs) : sgnI (decide (x<0)) (x.natAbs - y.natAbs)=x+y:=by
 unfold sgnI
 have h' : ¬ (x<0↔y<0):=fun e=>h (decide_eq_decide.2 e)
 by_cases h1 : x<0
 ·rw [decide_eq_true h1,if_pos rfl]; omega
 ·rw [decide_eq_false h1,if_neg (by decide)]; omega
theorem inner_sum (x y : Int) (h : decide (x<0)=decide (y<0)) (hx : dg x.natAbs≤50000000) (hy : dg y.natAbs≤50000000) (w : World) (hB : Bw w) :
  Calls Tryz.prog 176 #[IV x,IV y] w fun e W'=>e=.returned (IV (x+y))∧Below w.heap.size w W':=by
 have:=sum_walk x y hx hy w hB
 rwa [sum_add x y h] at this
theorem inner_dif (x y : Int) (h : decide (x<0)≠decide (y<0)) (hx : dg x.natAbs≤50000000) (hy : dg y.natAbs≤50000000) (w : World) (hB : Bw w) :
  Calls Tryz.prog 177 #[IV x,IV y] w fun e W'=>e=.returned (IV (x+y))∧Below w.heap.size w W':=by
 rw [IV_eq x,IV_eq y]
 rcases Nat.lt_or_ge x.natAbs y.natAbs with hlt | hlt
 ·have:=difference_less (decide (x<0)) (decide (y<0)) x.natAbs y.natAbs hlt hx hy w hB
  rwa [dif_less x y h hlt] at this
 ·have:=difference_more (decide (x<0)) (decide (y<0)) x.natAbs y.natAbs hlt hx hy w hB
  rwa [dif_more x y h hlt] at this
theorem iplus_walk (x y : Int) (hx : dg x.natAbs≤50000000) (hy : dg y.natAbs≤50000000) (w : World) (hB : Bw w) :
  Calls Tryz.prog 144 #[IV x,IV y] w fun e w'=>e=.returned (IV (x+y))∧Below w.heap.size w w':=by
 have hs:=fun h W hW=>inner_sum x y h hx hy W (hB.below hW)
 have hd:=fun h W hW=>inner_dif x y h hx hy W (hB.below hW)
 clear hx hy hB
 rw [IV_eq x,IV_eq y] at *
 rw [IV_eq (x+y)] at *
 generalize decide (x<0)=b at *
 generalize decide (y<0)=c at *
 cases b<;>cases c
 ·exact plus_falsefalse _ _ _ _ w fun W hW=>hs rfl W hW
 ·exact plus_falsetrue _ _ _ _ w fun W hW=>hd (by decide) W hW
 ·exact plus_truefalse _ _ _ _ w fun W hW=>hd (by decide) W hW
 ·exact plus_truetrue _ _ _ _ w fun W hW=>hs rfl W hW
end Go.Proofs.YtopfedbhkfdjkaaGreatDoor


/- integer: read, both, one. -/
namespace Go.Proofs.YtopfedbhkfdjkaaGreatDoor
open Go Go.RowKit
theorem neq_number (b c : Bool) (s t : ByteArray) : ∀ w,(binOp .neq 214 (.agg #[.bool b,.string s]) (.agg #[.bool c,.string t])).run Tryz.prog w=.ok (.bool (!(b == c && s.toList == t.toList))) w:=by
 intro w
 go_simp
 by_cases h1 : b=c<;>by_cases h2 : s.toList=t.toList<;>simp [h1,h2]
set_option maxHeartbeats 1000000 in
theorem iread_no (s : ByteArray) (hs : s.size≤1000000000) (hv : isNat (Lib.trimPrefix s.data.toList [45])=false) (w : World) :
  Calls Tryz.prog 172 #[.string s] w fun e w'=>e=.returned (.tuple #[.agg #[.bool (Lib.hasPrefix s.data.toList [45]),.string ⟨(Lib.trimPrefix s.data.toList [45]).toArray⟩],.bool false])∧Below w.heap.size w w':=by
 have HCP:=Lib.hid (fun w=>Tryz.strings_CutPrefix s ⟨#[45]⟩ w)
 have hl : (Lib.trimPrefix s.data.toList [45]).length≤s.size:=by
  rw [← toList_length]
  unfold Lib.trimPrefix
  split
  ·rw [List.length_drop]; omega
  ·exact Nat.le_refl _
 have HV:=Lib.hid (fun w=>valid_walk ⟨(Lib.trimPrefix s.data.toList [45]).toArray⟩ (by rw [← toList_length]; simp; omega) w)
 rw [show (⟨(Lib.trimPrefix s.data.toList [45]).toArray⟩ : ByteArray).data.toList=Lib.trimPrefix s.data.toList [45] from by simp,hv] at HV
 rw [show (⟨#[45]⟩ : ByteArray).data.toList=[45] from rfl] at HCP
 generalize (⟨(Lib.trimPrefix s.data.toList [45]).toArray⟩ : ByteArray)=d at *
 generalize Lib.hasPrefix s.data.toList [45]=b at *
 clear hl hv hs
 have hneq:=neq_number
 go_enter Tryz.func172,Tryz.ntmps172
 go_wp2_with (go_at_call 196; refine (HCP.out _).mono ?_; rintro e w' ⟨rfl,rfl⟩)
 refine wp_region_held_drew (S:=fun w'=>w'.cell? ⟨w.heap.size+1,0,none⟩=some (.bool b)∧w'.cell? ⟨w.heap.size+1,1,none⟩=some (.string d)) (by kernel_rfl) ?_ (fun hHeld=>?_)
 ·refine ⟨?_, ?_⟩<;>(go_simp; done)
 refine wtk 0 (.agg #[.bool b,.string d]) rfl rfl (fun w' hS=>?_) hHeld ?_
 ·obtain ⟨h0,h1⟩:=hS; go_simp
 try simp only [Act.put,lsx]
 refine wtk 1 (.string d) rfl rfl (fun w' hS=>?_) hHeld ?_
 ·obtain ⟨h0,h1⟩:=hS; go_simp
 try simp only [Act.put,lsx]
 refine wrd 2 rfl (fun K hK=>?_)
 rw [if_pos (by rfl)]
 go_wp2_with fail
 refine (HV.out _).mono ?_
 rintro e w' ⟨rfl,rfl⟩
 refine hK.out _ _ hHeld (fun hHeld=>?_)
 clear hK K
 try simp only [Act.put,lsx]
 refine wtk 3 (.bool false) rfl rfl (fun w' hS=>?_) hHeld ?_
 ·obtain ⟨h0,h1⟩:=hS; go_simp
 try simp only [Act.put,lsx]
 refine wpAnyH_take (i:=4) (v:=undef) rfl (by kernel_rfl) (by kernel_rfl) (by kernel_rfl) (fun _ _ _ h=>h) (Or.inr ⟨rfl,rfl⟩) hHeld ?_
 try simp only [Act.put,lsx]
 refine wpAnyH_take (i:=5) (v:=undef) rfl (by kernel_rfl) (by kernel_rfl) (by kernel_rfl) (fun _ _ _ h=>h) (Or.inr ⟨rfl,rfl⟩) hHeld ?_
 try simp only [Act.put,lsx]
 refine wpAnyH_take (i:=6) (v:=undef) rfl (by kernel_rfl) (by kernel_rfl) (by kernel_rfl) (fun _ _ _ h=>h) (Or.inr ⟨rfl,rfl⟩) hHeld ?_
 try simp only [Act.put,lsx]
 refine wtk 7 (.bool false) rfl rfl (fun w' hS=>?_) hHeld ?_
 ·obtain ⟨h0,h1⟩:=hS; go_simp
 try simp only [Act.put,lsx]
 refine wrd 8 rfl (fun K hK=>?_)
 rw [if_pos (by rfl)]
 go_simp
 refine hK.out _ _ (by refine ⟨?_, ?_⟩<;>(go_simp; done)) (fun hHeld=>?_)
 clear hK K
 try simp only [Act.put,lsx]
 refine wtk 9 (.bool false) rfl rfl (fun w' hS=>?_) hHeld ?_
 ·obtain ⟨h0,h1⟩:=hS; go_simp
 try simp only [Act.put,lsx]
 refine wpAnyH_done (by kernel_rfl) ?_ _
 go_wp2
 refine bodyPost_ret (v:=.tuple #[.agg #[.bool b,.string d],.bool false]) (by simp [results,Tryz.results172,go_sem, *]) rfl ⟨(by first | rfl | rw [hI]),bel⟩
set_option maxHeartbeats 1000000 in
theorem iread_nat (s : ByteArray) (hs : s.size≤1000000000) (hv : isNat (Lib.trimPrefix s.data.toList [45])=true) (w : World) :
  Calls Tryz.prog 172 #[.string s] w fun e w'=>e=.returned (.tuple #[.agg #[.bool (Lib.hasPrefix s.data.toList [45]),.string ⟨(Lib.trimPrefix s.data.toList [45]).toArray⟩],.bool (!(Lib.hasPrefix s.data.toList [45] && Lib.trimPrefix s.data.toList [45] == [48]))])∧Below w.heap.size w w':=by
 have HCP:=Lib.hid (fun w=>Tryz.strings_CutPrefix s ⟨#[45]⟩ w)
 have hl : (Lib.trimPrefix s.data.toList [45]).length≤s.size:=by
  rw [← toList_length]
  unfold Lib.trimPrefix
  split
  ·rw [List.length_drop]; omega
  ·exact Nat.le_refl _
 have HV:=Lib.hid (fun w=>valid_walk ⟨(Lib.trimPrefix s.data.toList [45]).toArray⟩ (by rw [← toList_length]; simp; omega) w)
 rw [show (⟨(Lib.trimPrefix s.data.toList [45]).toArray⟩ : ByteArray).data.toList=Lib.trimPrefix s.data.toList [45] from by simp,hv] at HV
 rw [show (⟨#[45]⟩ : ByteArray).data.toList=[45] from rfl] at HCP
 have hq : (Lib.trimPrefix s.data.toList [45] == [48])=((⟨(Lib.trimPrefix s.data.toList [45]).toArray⟩ : ByteArray).toList == [48]):=by rw [ByteArray.toList_eq]
 rw [hq]
 clear hq
 generalize (⟨(Lib.trimPrefix s.data.toList [45]).toArray⟩ : ByteArray)=d at *
 generalize Lib.hasPrefix s.data.toList [45]=b at *
 clear hl hv hs
 have hneq:=neq_number
 go_enter Tryz.func172,Tryz.ntmps172
 go_wp2_with (go_at_call 196; refine (HCP.out _).mono ?_; rintro e w' ⟨rfl,rfl⟩)
 go_region_held3 (fun w'=>w'.cell? ⟨w.heap.size+1,0,none⟩=some (.bool b)∧w'.cell? ⟨w.heap.size+1,1,none⟩=some (.string d))
  (refine ⟨?_, ?_⟩<;>(go_simp; done))
  (first | (go_at_call 156; refine (HV.out _).mono ?_; rintro e w' ⟨rfl,rfl⟩))
 clear hneq
 go_wp2
 have hI : (!(b && d.toList == [48]))=(!b || !d.toList == [48]):=Bool.not_and _ _
 refine bodyPost_ret (v:=.tuple #[.agg #[.bool b,.string d],.bool (!b || !d.toList == [48])]) (by simp [results,Tryz.results172,go_sem, *]) rfl ⟨(by first | rfl | rw [hI]),bel⟩
theorem iread_itx (z : Int) (hz : (itx z).size≤1000000000) (w : World) :
  Calls Tryz.prog 172 #[.string (itx z)] w fun e w'=>e=.returned (.tuple #[IV z,.bool true])∧Below w.heap.size w w':=by
 have h:=iread_nat (itx z) hz (by rw [itx_toList,trimPre_itoa,isNat_decDigits]) w
 rw [itx_toList,trimPre_itoa,hasPre_itoa,decDigits_eq_zero] at h
 have e : (!(decide (z<0) && decide (z.natAbs=0)))=true:=by
  by_cases h : z<0
  ·have : ¬ z.natAbs=0:=by omega
   simp [h,this]
  ·simp [h]
 rw [e] at h
 exact h
theorem iread_any (s : ByteArray) (hs : s.size≤1000000000) (w : World) :
  Calls Tryz.prog 172 #[.string s] w fun e w'=>e=.returned (.tuple #[.agg #[.bool (Lib.hasPrefix s.data.toList [45]),.string ⟨(Lib.trimPrefix s.data.toList [45]).toArray⟩],.bool (isIntB s)])∧Below w.heap.size w w':=by
 cases hv : isNat (Lib.trimPrefix s.data.toList [45]) with
 | false =>
  have h:=iread_no s hs hv w
  rwa [show isIntB s=false from by unfold isIntB isIntL; rw [hv]; rfl]
 | true =>
  have h:=iread_nat s hs hv w
  rwa [show isIntB s=(!(Lib.hasPrefix s.data.toList [45] && Lib.trimPrefix s.data.toList [45] == [48])) from by unfold isIntB isIntL; rw [hv,Bool.true_and]]
set_option maxHeartbeats 1000000 in
theorem iValid_walk (s : ByteArray) (hs : s.size≤1000000000) (w : World) :
  Calls Tryz.prog 155 #[.string s] w fun e w'=>e=.returned (.bool (isIntB s))∧Below w.heap.size w w':=by
 have H:=Lib.hid (fun w=>iread_any s hs w)
 clear hs
 generalize isIntB s=r at *
 generalize Lib.hasPrefix s.data.toList [45]=b at *
 generalize (⟨(Lib.trimPrefix s.data.toList [45]).toArray⟩ : ByteArray)=d at *
 go_enter Tryz.func155,Tryz.ntmps155
 go_wp2_with fail
 refine (H.out _).mono ?_
 rintro e w1 ⟨rfl,g1⟩
 have B1:=bn (w:=w) bel g1
 clear g1
 go_wp2
 go_ret
 exact ⟨rfl,bel⟩
theorem IV_shape (z : Int) : ∃ c d,IV z=.agg #[.bool c,.string d]:=⟨_,_,rfl⟩
set_option maxHeartbeats 1000000 in
theorem iboth_walk (x y : Int) (hx : (itx x).size≤1000000000) (hy : (itx y).size≤1000000000) (w : World) :
  Calls Tryz.prog 141 #[.string (itx x),.string (itx y)] w fun e w'=>e=.returned (.tuple #[IV x,IV y,.int .i64 0])∧Below w.heap.size w w':=by
 have H1:=Lib.hid (fun w=>iread_itx x hx w)
 have H2:=Lib.hid (fun w=>iread_itx y hy w)
 clear hx hy
 generalize itx x=s at *
 generalize itx y=t at *
 obtain ⟨b1,d1,e1⟩:=IV_shape x
 obtain ⟨b2,d2,e2⟩:=IV_shape y
 rw [e1] at H1 ⊢
 rw [e2] at H2 ⊢
 clear e1 e2
 go_enter Tryz.func141,Tryz.ntmps141
 go_wp2_with fail
 refine (H1.out _).mono ?_
 rintro e w1 ⟨rfl,g1⟩
 have hz1 : w.heap.size+1<w1.heap.size:=hzs g1
 have hz1_0 : w.heap.size<w1.heap.size:=by omega
 have B1:=bn (w:=w) bel g1
 have c1_0_0:=bcv g1 w.heap.size 0 (.bool false)
 have f1_0_0:=bfv g1 w.heap.size 0
 have c1_0_1:=bcv g1 w.heap.size 1 (.string ⟨#[]⟩)
 have f1_0_1:=bfv g1 w.heap.size 1
 have c1_1_0:=bcv g1 (w.heap.size+1) 0 (.bool false)
 have f1_1_0:=bfv g1 (w.heap.size+1) 0
 have c1_1_1:=bcv g1 (w.heap.size+1) 1 (.string ⟨#[]⟩)
 have f1_1_1:=bfv g1 (w.heap.size+1) 1
 clear g1
 go_wp2_with fail
 refine (H2.out _).mono ?_
 rintro e w2 ⟨rfl,g2⟩
 have c2_a:=bc (b:=w1.heap.size) (o:=0) (v:=.bool b1) g2 (by go_simp)
 have c2_b:=bc (b:=w1.heap.size) (o:=1) (v:=.string d1) g2 (by go_simp)
 have hz3 : w1.heap.size<w2.heap.size:=hzs g2
 have hz2 : w.heap.size+1<w2.heap.size:=hzs g2
 have hz2_0 : w.heap.size<w2.heap.size:=by omega
 have B2:=bn (w:=w) bel g2
 have c2_0_0:=bcv g2 w.heap.size 0 (.bool false)
 have f2_0_0:=bfv g2 w.heap.size 0
 have c2_0_1:=bcv g2 w.heap.size 1 (.string ⟨#[]⟩)
 have f2_0_1:=bfv g2 w.heap.size 1
 have c2_1_0:=bcv g2 (w.heap.size+1) 0 (.bool false)
 have f2_1_0:=bfv g2 (w.heap.size+1) 0
 have c2_1_1:=bcv g2 (w.heap.size+1) 1 (.string ⟨#[]⟩)
 have f2_1_1:=bfv g2 (w.heap.size+1) 1
 clear g2
 go_wp2
 go_region
 go_wp2
 refine bodyPost_ret (v:=.tuple #[.agg #[.bool b1,.string d1],.agg #[.bool b2,.string d2],.int .i64 0]) (by simp [results,Tryz.results141,go_sem, *]) rfl ⟨(by first | rfl | rw [hI]),bel⟩
set_option maxHeartbeats 1000000 in
theorem ione_walk (x : Int) (hx : (itx x).size≤1000000000) (w : World) :
  Calls Tryz.prog 171 #[.string (itx x)] w fun e w'=>e=.returned (.tuple #[IV x,.int .i64 0])∧Below w.heap.size w w':=by
 have h0 : itx 0=⟨#[48]⟩:=(itx_eq_zero 0).2 rfl
 have H1:=Lib.hid (fun w=>iboth_walk x 0 hx (by rw [h0]; decide) w)
 rw [h0] at H1
 clear hx h0
 generalize itx x=s at *
 obtain ⟨b1,d1,e1⟩:=IV_shape x
 obtain ⟨b2,d2,e2⟩:=IV_shape 0
 rw [e1] at H1 ⊢
 rw [e2] at H1
 clear e1 e2
 go_enter Tryz.func171,Tryz.ntmps171
 go_wp2_with fail
 refine (H1.out _).mono ?_
 rintro e w1 ⟨rfl,g1⟩
 have hz1 : w.heap.size<w1.heap.size:=hzs g1
 have B1:=bn (w:=w) bel g1
 have c1_0_0:=bcv g1 w.heap.size 0 (.bool false)
 have f1_0_0:=bfv g1 w.heap.size 0
 have c1_0_1:=bcv g1 w.heap.size 1 (.string ⟨#[]⟩)
 have f1_0_1:=bfv g1 w.heap.size 1
 clear g1
 go_wp2
 refine bodyPost_ret (v:=.tuple #[.agg #[.bool b1,.string d1],.int .i64 0]) (by simp [results,Tryz.results171,go_sem, *]) rfl ⟨(by first | rfl | rw [hI]),bel⟩
end Go.Proofs.YtopfedbhkfdjkaaGreatDoor


/- integer: divide; the functions on texts. -/
namespace Go.Proofs.YtopfedbhkfdjkaaGreatDoor
open Go Go.RowKit
theorem dg_one : dg 1=1:=dg_small (by omega)
theorem dec_ne (n : Nat) : ((dec n).toList == [48])=decide (n=0):=by rw [ByteArray.toList_eq,dec_toList,decDigits_eq_zero]
theorem ediv_pos {x : Int} (y : Int) (h0 : y≠0) (hx : ¬ x<0) : sgnI (decide (x<0) != decide (y<0)) (x.natAbs / y.natAbs)=x / y∧sgnI false (x.natAbs % y.natAbs)=x % y:=by
 have e1 : (x.natAbs : Int)=x:=by omega
 rw [decide_eq_false hx]
 by_cases hy : y<0
 ·have e2 : (y.natAbs : Int) = -y:=by omega
  rw [decide_eq_true hy]
  simp only [sgnI,Bool.false_bne,if_true,Bool.false_eq_true,if_false,Int.natCast_ediv,Int.natCast_emod,e1,e2]
  exact ⟨by rw [Int.ediv_neg,Int.neg_neg],Int.emod_neg _ _⟩
 ·have e2 : (y.natAbs : Int)=y:=by omega
  rw [decide_eq_false hy]
  simp only [sgnI,Bool.false_bne,Bool.false_eq_true,if_false,Int.natCast_ediv,Int.natCast_emod,e1,e2]
  exact ⟨trivial,trivial⟩
theorem ediv_unique {x y q r : Int} (hy : y≠0) (h : x=y * q+r) (h0 : 0≤r) (h1 : r<y.natAbs) : q=x / y∧r=x % y:=by
 rcases Int.lt_or_gt_of_ne hy with hn | hp
 ·have e:=(Int.ediv_emod_unique' (a:=x) (b:=y) (r:=r) (q:=q) hn).2 ⟨by omega,h0,by omega⟩
  exact ⟨e.1.symm,e.2.symm⟩
 ·have e:=(Int.ediv_emod_unique (a:=x) (b:=y) (r:=r) (q:=q) hp).2 ⟨by omega,h0,by omega⟩
  exact ⟨e.1.symm,e.2.symm⟩
theorem ediv_even {x : Int} (y : Int) (h0 : y≠0) (hr : x.natAbs % y.natAbs=0) : sgnI (decide (x<0) != decide (y<0)) (x.natAbs / y.natAbs)=x / y∧sgnI false (x.natAbs % y.natAbs)=x % y:=by
 have hm : (x.natAbs : Int)=y.natAbs * (x.natAbs / y.natAbs : Nat):=by
  have:=Nat.div_add_mod x.natAbs y.natAbs
  rw [hr,Nat.add_zero] at this
  exact_mod_cast this.symm
 rw [hr]
 generalize x.natAbs / y.natAbs=q at *
 refine ediv_unique h0 ?_ (by simp [sgnI]) (by simp [sgnI]; omega)
 by_cases hx : x<0<;>by_cases hy : y<0
 ·have e1 : (x.natAbs : Int) = -x:=by omega
  have e2 : (y.natAbs : Int) = -y:=by omega
  rw [e1,e2,Int.neg_mul] at hm
  simp [sgnI,hx,hy,Int.mul_neg]; omega
 ·have e1 : (x.natAbs : Int) = -x:=by omega
  have e2 : (y.natAbs : Int)=y:=by omega
  rw [e1,e2] at hm
  simp [sgnI,hx,hy,Int.mul_neg]; omega
 ·have e1 : (x.natAbs : Int)=x:=by omega
  have e2 : (y.natAbs : Int) = -y:=by omega
  rw [e1,e2,Int.neg_mul] at hm
  simp [sgnI,hx,hy,Int.mul_neg]; omega
 ·have e1 : (x.natAbs : Int)=x:=by omega
  have e2 : (y.natAbs : Int)=y:=by omega
  rw [e1,e2] at hm
  simp [sgnI,hx,hy,Int.mul_neg]; omega
theorem ediv_neg' {x : Int} (y : Int) (h0 : y≠0) (hx : x<0) (hr : x.natAbs % y.natAbs≠0) : sgnI (true != decide (y<0)) (x.natAbs / y.natAbs+1)=x / y∧sgnI false (y.natAbs - x.natAbs % y.natAbs)=x % y:=by
 have hlt : x.natAbs % y.natAbs<y.natAbs:=Nat.mod_lt _ (by omega)
 have hm : (x.natAbs : Int)=y.natAbs * (x.natAbs / y.natAbs : Nat) + (x.natAbs % y.natAbs : Nat):=by
  have:=Nat.div_add_mod x.natAbs y.natAbs
  exact_mod_cast this.symm
 generalize x.natAbs / y.natAbs=q at *
 generalize x.natAbs % y.natAbs=r at *
 refine ediv_unique h0 ?_ (by simp [sgnI]) (by simp [sgnI]; omega)
 have e1 : (x.natAbs : Int) = -x:=by omega
 by_cases hy : y<0
 ·have e2 : (y.natAbs : Int) = -y:=by omega
  rw [e1,e2,Int.neg_mul] at hm
  have : y * ((q : Int)+1)=y * q+y:=by rw [Int.mul_add,Int.mul_one]
  simp [sgnI,hy,Int.mul_neg]; omega
 ·have e2 : (y.natAbs : Int)=y:=by omega
  rw [e1,e2] at hm
  have : y * ((q : Int)+1)=y * q+y:=by rw [Int.mul_add,Int.mul_one]
  simp [sgnI,hy,Int.mul_neg]; omega
set_option maxHeartbeats 1000000 in
theorem divide_pos (c : Bool) (n m : Nat) (h0 : 0<m) (hx : dg n≤50000000) (hy : dg m≤50000000) (c1 c2 : Bool) (d1 d2 : ByteArray) (w : World) (hB : Bw w)
  (e1 : IV (sgnI c (n / m))=.agg #[.bool c1,.string d1]) (e2 : IV (sgnI false (n % m))=.agg #[.bool c2,.string d2]) :
  Calls Tryz.prog 247 #[.agg #[.bool false,.string (dec n)],.agg #[.bool c,.string (dec m)]] w fun e w'=>e=.returned (.tuple #[.agg #[.bool c1,.string d1],.agg #[.bool c2,.string d2]])∧Below w.heap.size w w':=by
 have hq:=dg_mono (Nat.div_le_self n m)
 have hq1:=dg_add (n / m) 1
 have hone:=dg_one
 have hr:=dg_mono (Nat.le_of_lt (Nat.mod_lt n h0))
 have hr1:=dg_mono (Nat.sub_le m (n % m))
 have H1:=Lib.hid (show (dec n).size≤100000000 by have:=dg_def n; omega)
 have H2:=Lib.hid (show (dec m).size≤100000000 by have:=dg_def m; omega)
 have H3:=Lib.hid (show (wds (n / m)).length≤100000000 by have:=wds_le_dg (n / m); omega)
 have H4:=Lib.hid (show (wds (n % m)).length≤100000000 by have:=wds_le_dg (n % m); omega)
 have H5:=Lib.hid (show (dec (n / m)).size≤100000000 by have:=dg_def (n / m); omega)
 have H6:=Lib.hid (show (dec (n % m)).size≤100000000 by have:=dg_def (n % m); omega)
 have H7:=Lib.hid (show (wds (n / m+1)).length≤100000000 by have:=wds_le_dg (n / m+1); omega)
 have H8:=Lib.hid (show (wds (m - n % m)).length≤100000000 by have:=wds_le_dg (m - n % m); omega)
 have H9:=Lib.hid (show n % m≤m from Nat.le_of_lt (Nat.mod_lt n h0))
 have H10:=Lib.hid h0
 have H11:=Lib.hid (show (dec 1).size≤100000000 by have:=dg_def 1; omega)
 have H12:=Lib.hid dec_one
 have E1:=Lib.hid e1
 have E2:=Lib.hid e2
 clear hx hy hq hq1 hone hr hr1 h0 e1 e2
 go_enter Tryz.func247,Tryz.ntmps247
 go_wp2_with fail
 refine (natDivMod_walk n m H10.out H1.out H2.out H3.out H4.out _ (hB.below bel)).mono ?_
 rintro e w1 ⟨rfl,g1⟩
 have hz1 : w.heap.size+3<w1.heap.size:=hzs g1
 have hz1_0 : w.heap.size<w1.heap.size:=by omega
 have hz1_1 : w.heap.size+1<w1.heap.size:=by omega
 have hz1_2 : w.heap.size+2<w1.heap.size:=by omega
 have B1:=bn (w:=w) bel g1
 have c1_0_0:=bcv g1 w.heap.size 0 (.bool false)
 have f1_0_0:=bfv g1 w.heap.size 0
 have c1_0_1:=bcv g1 w.heap.size 1 (.string (dec n))
 have f1_0_1:=bfv g1 w.heap.size 1
 have c1_1_0:=bcv g1 (w.heap.size+1) 0 (.bool c)
 have f1_1_0:=bfv g1 (w.heap.size+1) 0
 have c1_1_1:=bcv g1 (w.heap.size+1) 1 (.string (dec m))
 have f1_1_1:=bfv g1 (w.heap.size+1) 1
 have c1_2_0:=bcv g1 (w.heap.size+1+1) 0 (.bool false)
 have f1_2_0:=bfv g1 (w.heap.size+1+1) 0
 have c1_2_1:=bcv g1 (w.heap.size+1+1) 1 (.string ⟨#[]⟩)
 have f1_2_1:=bfv g1 (w.heap.size+1+1) 1
 have c1_3_0:=bcv g1 (w.heap.size+1+1+1) 0 (.bool false)
 have f1_3_0:=bfv g1 (w.heap.size+1+1+1) 0
 have c1_3_1:=bcv g1 (w.heap.size+1+1+1) 1 (.string ⟨#[]⟩)
 have f1_3_1:=bfv g1 (w.heap.size+1+1+1) 1
 clear g1
 go_wp2_with fail
 refine (with_walk c (n / m) _).mono ?_
 rintro e w2 ⟨rfl,g2⟩
 have hz2 : w.heap.size+3<w2.heap.size:=hzs g2
 have hz2_0 : w.heap.size<w2.heap.size:=by omega
 have hz2_1 : w.heap.size+1<w2.heap.size:=by omega
 have hz2_2 : w.heap.size+2<w2.heap.size:=by omega
 have B2:=bn (w:=w) bel g2
 have c2_2_0:=bcv g2 (w.heap.size+1+1) 0 (.bool false)
 have f2_2_0:=bfv g2 (w.heap.size+1+1) 0
 have c2_2_1:=bcv g2 (w.heap.size+1+1) 1 (.string ⟨#[]⟩)
 have f2_2_1:=bfv g2 (w.heap.size+1+1) 1
 have c2_3_0:=bcv g2 (w.heap.size+1+1+1) 0 (.bool false)
 have f2_3_0:=bfv g2 (w.heap.size+1+1+1) 0
 have c2_3_1:=bcv g2 (w.heap.size+1+1+1) 1 (.string ⟨#[]⟩)
 have f2_3_1:=bfv g2 (w.heap.size+1+1+1) 1
 clear g2
 rw [E1.out]
 go_wp2_with fail
 refine (with_walk false (n % m) _).mono ?_
 rintro e w3 ⟨rfl,g3⟩
 have hz3 : w.heap.size+3<w3.heap.size:=hzs g3
 have hz3_0 : w.heap.size<w3.heap.size:=by omega
 have hz3_1 : w.heap.size+1<w3.heap.size:=by omega
 have hz3_2 : w.heap.size+2<w3.heap.size:=by omega
 have B3:=bn (w:=w) bel g3
 have c3_2_0:=bcv g3 (w.heap.size+1+1) 0 (.bool false)
 have f3_2_0:=bfv g3 (w.heap.size+1+1) 0
 have c3_2_1:=bcv g3 (w.heap.size+1+1) 1 (.string ⟨#[]⟩)
 have f3_2_1:=bfv g3 (w.heap.size+1+1) 1
 have c3_3_0:=bcv g3 (w.heap.size+1+1+1) 0 (.bool false)
 have f3_3_0:=bfv g3 (w.heap.size+1+1+1) 0
 have c3_3_1:=bcv g3 (w.heap.size+1+1+1) 1 (.string ⟨#[]⟩)
 have f3_3_1:=bfv g3 (w.heap.size+1+1+1) 1
 clear g3
 rw [E2.out]
 go_wp2
 refine bodyPost_ret (v:=.tuple #[.agg #[.bool c1,.string d1],.agg #[.bool c2,.string d2]]) (by simp [results,Tryz.results247,go_sem, *]) rfl ⟨(by first | rfl | rw [hI]),bel⟩
set_option maxHeartbeats 1000000 in
theorem divide_even (c : Bool) (n m : Nat) (h0 : 0<m) (hr0 : n % m=0) (hx : dg n≤50000000) (hy : dg m≤50000000) (c1 c2 : Bool) (d1 d2 : ByteArray) (w : World) (hB : Bw w)
  (e1 : IV (sgnI (!c) (n / m))=.agg #[.bool c1,.string d1]) (e2 : IV (sgnI false (n % m))=.agg #[.bool c2,.string d2]) :
  Calls Tryz.prog 247 #[.agg #[.bool true,.string (dec n)],.agg #[.bool c,.string (dec m)]] w fun e w'=>e=.returned (.tuple #[.agg #[.bool c1,.string d1],.agg #[.bool c2,.string d2]])∧Below w.heap.size w w':=by
 have hq:=dg_mono (Nat.div_le_self n m)
 have hq1:=dg_add (n / m) 1
 have hone:=dg_one
 have hr:=dg_mono (Nat.le_of_lt (Nat.mod_lt n h0))
 have hr1:=dg_mono (Nat.sub_le m (n % m))
 have H1:=Lib.hid (show (dec n).size≤100000000 by have:=dg_def n; omega)
 have H2:=Lib.hid (show (dec m).size≤100000000 by have:=dg_def m; omega)
 have H3:=Lib.hid (show (wds (n / m)).length≤100000000 by have:=wds_le_dg (n / m); omega)
 have H4:=Lib.hid (show (wds (n % m)).length≤100000000 by have:=wds_le_dg (n % m); omega)
 have H5:=Lib.hid (show (dec (n / m)).size≤100000000 by have:=dg_def (n / m); omega)
 have H6:=Lib.hid (show (dec (n % m)).size≤100000000 by have:=dg_def (n % m); omega)
 have H7:=Lib.hid (show (wds (n / m+1)).length≤100000000 by have:=wds_le_dg (n / m+1); omega)
 have H8:=Lib.hid (show (wds (m - n % m)).length≤100000000 by have:=wds_le_dg (m - n % m); omega)
 have H9:=Lib.hid (show n % m≤m from Nat.le_of_lt (Nat.mod_lt n h0))
 have H10:=Lib.hid h0
 have H11:=Lib.hid (show (dec 1).size≤100000000 by have:=dg_def 1; omega)
 have H12:=Lib.hid dec_one
 have E1:=Lib.hid e1
 have E2:=Lib.hid e2
 have hq0 : ((dec (n % m)).toList == [48])=true:=by rw [dec_ne,hr0]; rfl
 clear hr0
 clear hx hy hq hq1 hone hr hr1 h0 e1 e2
 go_enter Tryz.func247,Tryz.ntmps247
 go_wp2_with fail
 refine (natDivMod_walk n m H10.out H1.out H2.out H3.out H4.out _ (hB.below bel)).mono ?_
 rintro e w1 ⟨rfl,g1⟩
 have hz1 : w.heap.size+3<w1.heap.size:=hzs g1
 have hz1_0 : w.heap.size<w1.heap.size:=by omega
 have hz1_1 : w.heap.size+1<w1.heap.size:=by omega
 have hz1_2 : w.heap.size+2<w1.heap.size:=by omega
 have B1:=bn (w:=w) bel g1
 have c1_0_0:=bcv g1 w.heap.size 0 (.bool true)
 have f1_0_0:=bfv g1 w.heap.size 0
 have c1_0_1:=bcv g1 w.heap.size 1 (.string (dec n))
 have f1_0_1:=bfv g1 w.heap.size 1
 have c1_1_0:=bcv g1 (w.heap.size+1) 0 (.bool c)
 have f1_1_0:=bfv g1 (w.heap.size+1) 0
 have c1_1_1:=bcv g1 (w.heap.size+1) 1 (.string (dec m))
 have f1_1_1:=bfv g1 (w.heap.size+1) 1
 have c1_2_0:=bcv g1 (w.heap.size+1+1) 0 (.bool false)
 have f1_2_0:=bfv g1 (w.heap.size+1+1) 0
 have c1_2_1:=bcv g1 (w.heap.size+1+1) 1 (.string ⟨#[]⟩)
 have f1_2_1:=bfv g1 (w.heap.size+1+1) 1
 have c1_3_0:=bcv g1 (w.heap.size+1+1+1) 0 (.bool false)
 have f1_3_0:=bfv g1 (w.heap.size+1+1+1) 0
 have c1_3_1:=bcv g1 (w.heap.size+1+1+1) 1 (.string ⟨#[]⟩)
 have f1_3_1:=bfv g1 (w.heap.size+1+1+1) 1
 clear g1
 go_wp2_with fail
 refine (with_walk (!c) (n / m) _).mono ?_
 rintro e w2 ⟨rfl,g2⟩
 have hz2 : w.heap.size+3<w2.heap.size:=hzs g2
 have hz2_0 : w.heap.size<w2.heap.size:=by omega
 have hz2_1 : w.heap.size+1<w2.heap.size:=by omega
 have hz2_2 : w.heap.size+2<w2.heap.size:=by omega
 have B2:=bn (w:=w) bel g2
 have c2_2_0:=bcv g2 (w.heap.size+1+1) 0 (.bool false)
 have f2_2_0:=bfv g2 (w.heap.size+1+1) 0
 have c2_2_1:=bcv g2 (w.heap.size+1+1) 1 (.string ⟨#[]⟩)
 have f2_2_1:=bfv g2 (w.heap.size+1+1) 1
 have c2_3_0:=bcv g2 (w.heap.size+1+1+1) 0 (.bool false)
 have f2_3_0:=bfv g2 (w.heap.size+1+1+1) 0
 have c2_3_1:=bcv g2 (w.heap.size+1+1+1) 1 (.string ⟨#[]⟩)
 have f2_3_1:=bfv g2 (w.heap.size+1+1+1) 1
 clear g2
 rw [E1.out]
 go_wp2_with fail
 refine (with_walk false (n % m) _).mono ?_
 rintro e w3 ⟨rfl,g3⟩
 have hz3 : w.heap.size+3<w3.heap.size:=hzs g3
 have hz3_0 : w.heap.size<w3.heap.size:=by omega
 have hz3_1 : w.heap.size+1<w3.heap.size:=by omega
 have hz3_2 : w.heap.size+2<w3.heap.size:=by omega
 have B3:=bn (w:=w) bel g3
 have c3_2_0:=bcv g3 (w.heap.size+1+1) 0 (.bool false)
 have f3_2_0:=bfv g3 (w.heap.size+1+1) 0
 have c3_2_1:=bcv g3 (w.heap.size+1+1) 1 (.string ⟨#[]⟩)
 have f3_2_1:=bfv g3 (w.heap.size+1+1) 1
 have c3_3_0:=bcv g3 (w.heap.size+1+1+1) 0 (.bool false)
 have f3_3_0:=bfv g3 (w.heap.size+1+1+1) 0
 have c3_3_1:=bcv g3 (w.heap.size+1+1+1) 1 (.string ⟨#[]⟩)
 have f3_3_1:=bfv g3 (w.heap.size+1+1+1) 1
 clear g3
 rw [E2.out]
 go_wp2
 refine bodyPost_ret (v:=.tuple #[.agg #[.bool c1,.string d1],.agg #[.bool c2,.string d2]]) (by simp [results,Tryz.results247,go_sem, *]) rfl ⟨(by first | rfl | rw [hI]),bel⟩
set_option maxHeartbeats 1000000 in
theorem divide_odd (c : Bool) (n m : Nat) (h0 : 0<m) (hr0 : n % m≠0) (hx : dg n≤50000000) (hy : dg m≤50000000) (c1 c2 : Bool) (d1 d2 : ByteArray) (w : World) (hB : Bw w)
  (e1 : IV (sgnI (!c) (n / m+1))=.agg #[.bool c1,.string d1]) (e2 : IV (sgnI false (m - n % m))=.agg #[.bool c2,.string d2]) :
  Calls Tryz.prog 247 #[.agg #[.bool true,.string (dec n)],.agg #[.bool c,.string (dec m)]] w fun e w'=>e=.returned (.tuple #[.agg #[.bool c1,.string d1],.agg #[.bool c2,.string d2]])∧Below w.heap.size w w':=by
 have hq:=dg_mono (Nat.div_le_self n m)
 have hq1:=dg_add (n / m) 1
 have hone:=dg_one
 have hr:=dg_mono (Nat.le_of_lt (Nat.mod_lt n h0))
 have hr1:=dg_mono (Nat.sub_le m (n % m))
 have H1:=Lib.hid (show (dec n).size≤100000000 by have:=dg_def n; omega)
 have H2:=Lib.hid (show (dec m).size≤100000000 by have:=dg_def m; omega)
 have H3:=Lib.hid (show (wds (n / m)).length≤100000000 by have:=wds_le_dg (n / m); omega)
 have H4:=Lib.hid (show (wds (n % m)).length≤100000000 by have:=wds_le_dg (n % m); omega)
 have H5:=Lib.hid (show (dec (n / m)).size≤100000000 by have:=dg_def (n / m); omega)
 have H6:=Lib.hid (show (dec (n % m)).size≤100000000 by have:=dg_def (n % m); omega)
 have H7:=Lib.hid (show (wds (n / m+1)).length≤100000000 by have:=wds_le_dg (n / m+1); omega)
 have H8:=Lib.hid (show (wds (m - n % m)).length≤100000000 by have:=wds_le_dg (m - n % m); omega)
 have H9:=Lib.hid (show n % m≤m from Nat.le_of_lt (Nat.mod_lt n h0))
 have H10:=Lib.hid h0
 have H11:=Lib.hid (show (dec 1).size≤100000000 by have:=dg_def 1; omega)
 have H12:=Lib.hid dec_one
 have E1:=Lib.hid e1
 have E2:=Lib.hid e2
 have hq0 : ((dec (n % m)).toList == [48])=false:=by rw [dec_ne,decide_eq_false hr0]
 clear hr0
 clear hx hy hq hq1 hone hr hr1 h0 e1 e2
 go_enter Tryz.func247,Tryz.ntmps247
 go_wp2_with fail
 refine (natDivMod_walk n m H10.out H1.out H2.out H3.out H4.out _ (hB.below bel)).mono ?_
 rintro e w1 ⟨rfl,g1⟩
 have hz1 : w.heap.size+3<w1.heap.size:=hzs g1
 have hz1_0 : w.heap.size<w1.heap.size:=by omega
 have hz1_1 : w.heap.size+1<w1.heap.size:=by omega
 have hz1_2 : w.heap.size+2<w1.heap.size:=by omega
 have B1:=bn (w:=w) bel g1
 have c1_0_0:=bcv g1 w.heap.size 0 (.bool true)
 have f1_0_0:=bfv g1 w.heap.size 0
 have c1_0_1:=bcv g1 w.heap.size 1 (.string (dec n))
 have f1_0_1:=bfv g1 w.heap.size 1
 have c1_1_0:=bcv g1 (w.heap.size+1) 0 (.bool c)
 have f1_1_0:=bfv g1 (w.heap.size+1) 0
 have c1_1_1:=bcv g1 (w.heap.size+1) 1 (.string (dec m))
 have f1_1_1:=bfv g1 (w.heap.size+1) 1
 have c1_2_0:=bcv g1 (w.heap.size+1+1) 0 (.bool false)
 have f1_2_0:=bfv g1 (w.heap.size+1+1) 0
 have c1_2_1:=bcv g1 (w.heap.size+1+1) 1 (.string ⟨#[]⟩)
 have f1_2_1:=bfv g1 (w.heap.size+1+1) 1
 have c1_3_0:=bcv g1 (w.heap.size+1+1+1) 0 (.bool false)
 have f1_3_0:=bfv g1 (w.heap.size+1+1+1) 0
 have c1_3_1:=bcv g1 (w.heap.size+1+1+1) 1 (.string ⟨#[]⟩)
 have f1_3_1:=bfv g1 (w.heap.size+1+1+1) 1
 clear g1
 go_wp2_with fail
 rw [← H12.out]
 refine (natAdd_walk (n / m) 1 H5.out H11.out H7.out _ (hB.below bel)).mono ?_
 rintro e w2 ⟨rfl,g2⟩
 have hz2 : w.heap.size+3<w2.heap.size:=hzs g2
 have hz2_0 : w.heap.size<w2.heap.size:=by omega
 have hz2_1 : w.heap.size+1<w2.heap.size:=by omega
 have hz2_2 : w.heap.size+2<w2.heap.size:=by omega
 have B2:=bn (w:=w) bel g2
 have c2_0_0:=bcv g2 w.heap.size 0 (.bool true)
 have f2_0_0:=bfv g2 w.heap.size 0
 have c2_0_1:=bcv g2 w.heap.size 1 (.string (dec n))
 have f2_0_1:=bfv g2 w.heap.size 1
 have c2_1_0:=bcv g2 (w.heap.size+1) 0 (.bool c)
 have f2_1_0:=bfv g2 (w.heap.size+1) 0
 have c2_1_1:=bcv g2 (w.heap.size+1) 1 (.string (dec m))
 have f2_1_1:=bfv g2 (w.heap.size+1) 1
 have c2_2_0:=bcv g2 (w.heap.size+1+1) 0 (.bool false)
 have f2_2_0:=bfv g2 (w.heap.size+1+1) 0
 have c2_2_1:=bcv g2 (w.heap.size+1+1) 1 (.string ⟨#[]⟩)
 have f2_2_1:=bfv g2 (w.heap.size+1+1) 1
 have c2_3_0:=bcv g2 (w.heap.size+1+1+1) 0 (.bool false)
 have f2_3_0:=bfv g2 (w.heap.size+1+1+1) 0
 have c2_3_1:=bcv g2 (w.heap.size+1+1+1) 1 (.string ⟨#[]⟩)
 have f2_3_1:=bfv g2 (w.heap.size+1+1+1) 1
 clear g2
 go_wp2_with fail
 refine (natSub_walk m (n % m) H9.out H2.out H6.out H8.out _ (hB.below bel)).mono ?_
 rintro e w3 ⟨rfl,g3⟩
 have hz3 : w.heap.size+3<w3.heap.size:=hzs g3
 have hz3_0 : w.heap.size<w3.heap.size:=by omega
 have hz3_1 : w.heap.size+1<w3.heap.size:=by omega
 have hz3_2 : w.heap.size+2<w3.heap.size:=by omega
 have B3:=bn (w:=w) bel g3
 have c3_0_0:=bcv g3 w.heap.size 0 (.bool true)
 have f3_0_0:=bfv g3 w.heap.size 0
 have c3_0_1:=bcv g3 w.heap.size 1 (.string (dec n))
 have f3_0_1:=bfv g3 w.heap.size 1
 have c3_1_0:=bcv g3 (w.heap.size+1) 0 (.bool c)
 have f3_1_0:=bfv g3 (w.heap.size+1) 0
 have c3_1_1:=bcv g3 (w.heap.size+1) 1 (.string (dec m))
 have f3_1_1:=bfv g3 (w.heap.size+1) 1
 have c3_2_0:=bcv g3 (w.heap.size+1+1) 0 (.bool false)
 have f3_2_0:=bfv g3 (w.heap.size+1+1) 0
 have c3_2_1:=bcv g3 (w.heap.size+1+1) 1 (.string ⟨#[]⟩)
 have f3_2_1:=bfv g3 (w.heap.size+1+1) 1
 have c3_3_0:=bcv g3 (w.heap.size+1+1+1) 0 (.bool false)
 have f3_3_0:=bfv g3 (w.heap.size+1+1+1) 0
 have c3_3_1:=bcv g3 (w.heap.size+1+1+1) 1 (.string ⟨#[]⟩)
 have f3_3_1:=bfv g3 (w.heap.size+1+1+1) 1
 clear g3
 go_wp2_with fail
 refine (with_walk (!c) (n / m+1) _).mono ?_
 rintro e w4 ⟨rfl,g4⟩
 have hz4 : w.heap.size+3<w4.heap.size:=hzs g4
 have hz4_0 : w.heap.size<w4.heap.size:=by omega
 have hz4_1 : w.heap.size+1<w4.heap.size:=by omega
 have hz4_2 : w.heap.size+2<w4.heap.size:=by omega
 have B4:=bn (w:=w) bel g4
 have c4_2_0:=bcv g4 (w.heap.size+1+1) 0 (.bool false)
 have f4_2_0:=bfv g4 (w.heap.size+1+1) 0
 have c4_2_1:=bcv g4 (w.heap.size+1+1) 1 (.string ⟨#[]⟩)
 have f4_2_1:=bfv g4 (w.heap.size+1+1) 1
 have c4_3_0:=bcv g4 (w.heap.size+1+1+1) 0 (.bool false)
 have f4_3_0:=bfv g4 (w.heap.size+1+1+1) 0
 have c4_3_1:=bcv g4 (w.heap.size+1+1+1) 1 (.string ⟨#[]⟩)
 have f4_3_1:=bfv g4 (w.heap.size+1+1+1) 1
 clear g4
 rw [E1.out]
 go_wp2_with fail
 refine (with_walk false (m - n % m) _).mono ?_
 rintro e w5 ⟨rfl,g5⟩
 have hz5 : w.heap.size+3<w5.heap.size:=hzs g5
 have hz5_0 : w.heap.size<w5.heap.size:=by omega
 have hz5_1 : w.heap.size+1<w5.heap.size:=by omega
 have hz5_2 : w.heap.size+2<w5.heap.size:=by omega
 have B5:=bn (w:=w) bel g5
 have c5_2_0:=bcv g5 (w.heap.size+1+1) 0 (.bool false)
 have f5_2_0:=bfv g5 (w.heap.size+1+1) 0
 have c5_2_1:=bcv g5 (w.heap.size+1+1) 1 (.string ⟨#[]⟩)
 have f5_2_1:=bfv g5 (w.heap.size+1+1) 1
 have c5_3_0:=bcv g5 (w.heap.size+1+1+1) 0 (.bool false)
 have f5_3_0:=bfv g5 (w.heap.size+1+1+1) 0
 have c5_3_1:=bcv g5 (w.heap.size+1+1+1) 1 (.string ⟨#[]⟩)
 have f5_3_1:=bfv g5 (w.heap.size+1+1+1) 1
 clear g5
 rw [E2.out]
 go_wp2
 refine bodyPost_ret (v:=.tuple #[.agg #[.bool c1,.string d1],.agg #[.bool c2,.string d2]]) (by simp [results,Tryz.results247,go_sem, *]) rfl ⟨(by first | rfl | rw [hI]),bel⟩
theorem idivide_walk (x y : Int) (h0 : y≠0) (hx : dg x.natAbs≤50000000) (hy : dg y.natAbs≤50000000) (w : World) (hB : Bw w) :
  Calls Tryz.prog 247 #[IV x,IV y] w fun e w'=>e=.returned (.tuple #[IV (x / y),IV (x % y)])∧Below w.heap.size w w':=by
 have hp : 0<y.natAbs:=by omega
 obtain ⟨c1,d1,e1⟩:=IV_shape (x / y)
 obtain ⟨c2,d2,e2⟩:=IV_shape (x % y)
 rw [e1,e2,IV_eq x,IV_eq y]
 by_cases hn : x<0
 ·by_cases hr : x.natAbs % y.natAbs=0
  ·have h:=ediv_even y h0 hr
   rw [decide_eq_true hn] at h ⊢
   exact divide_even _ _ _ hp hr hx hy c1 c2 d1 d2 w hB (by rw [← e1,← h.1,Bool.true_bne]) (by rw [h.2,e2])
  ·have h:=ediv_neg' y h0 hn hr
   rw [decide_eq_true hn]
   exact divide_odd _ _ _ hp hr hx hy c1 c2 d1 d2 w hB (by rw [← e1,← h.1,Bool.true_bne]) (by rw [h.2,e2])
 ·have h:=ediv_pos y h0 hn
  rw [decide_eq_false hn] at h ⊢
  exact divide_pos _ _ _ hp hx hy c1 c2 d1 d2 w hB (by rw [← e1,← h.1,Bool.false_bne]) (by rw [h.2,e2])
end Go.Proofs.YtopfedbhkfdjkaaGreatDoor


/- integer: the functions on texts. -/
namespace Go.Proofs.YtopfedbhkfdjkaaGreatDoor
open Go Go.RowKit
theorem itx_size (z : Int) : (itx z).size≤dg z.natAbs+1:=by
 have h1 : (dec z.natAbs).data.toList.length=dg z.natAbs:=toList_length _
 rw [itx_dec]
 split
 ·rw [← toList_length]
  simp
  rw [dg_def]
  omega
 ·rw [dg_def]; omega
theorem dg_sgn (z : Int) : dg z.natAbs≤(itx z).size:=by
 have h1 : (dec z.natAbs).data.toList.length=dg z.natAbs:=toList_length _
 rw [itx_dec]
 split
 ·rw [← toList_length]
  simp
  rw [dg_def]
  omega
 ·rw [dg_def]; omega
set_option maxHeartbeats 1000000 in
theorem iSign_walk (x : Int) (hx : dg x.natAbs≤50000000) (w : World) :
  Calls Tryz.prog 140 #[.string (itx x)] w fun e w'=>e=.returned (.tuple #[.int .i64 (sgn x),.int .i64 0])∧Below w.heap.size w w':=by
 have H1:=Lib.hid (fun w=>ione_walk x (by have:=itx_size x; omega) w)
 have H2:=Lib.hid (fun w=>sign_walk x w)
 clear hx
 generalize itx x=s at *
 generalize sgn x=g at *
 obtain ⟨b1,d1,e1⟩:=IV_shape x
 rw [e1] at H1 H2
 clear e1
 go_enter Tryz.func140,Tryz.ntmps140
 go_wp2_with fail
 refine (H1.out _).mono ?_
 rintro e w1 ⟨rfl,g1⟩
 have B1:=bn (w:=w) bel g1
 clear g1
 go_wp2_with fail
 refine (H2.out _).mono ?_
 rintro e w2 ⟨rfl,g2⟩
 have B2:=bn (w:=w) bel g2
 clear g2
 go_wp2
 go_ret2
 exact ⟨rfl,bel⟩
set_option maxHeartbeats 1000000 in
theorem iAbs_walk (x : Int) (hx : dg x.natAbs≤50000000) (w : World) :
  Calls Tryz.prog 184 #[.string (itx x)] w fun e w'=>e=.returned (.tuple #[.string (dec x.natAbs),.int .i64 0])∧Below w.heap.size w w':=by
 have H1:=Lib.hid (fun w=>ione_walk x (by have:=itx_size x; omega) w)
 rw [IV_eq] at H1
 clear hx
 generalize itx x=s at *
 generalize decide (x<0)=b1 at *
 generalize dec x.natAbs=d1 at *
 go_enter Tryz.func184,Tryz.ntmps184
 go_wp2_with fail
 refine (H1.out _).mono ?_
 rintro e w1 ⟨rfl,g1⟩
 have B1:=bn (w:=w) bel g1
 clear g1
 go_wp2
 go_ret2
 exact ⟨rfl,bel⟩
set_option maxHeartbeats 1000000 in
theorem iNeg_walk (x : Int) (hx : dg x.natAbs≤50000000) (w : World) :
  Calls Tryz.prog 211 #[.string (itx x)] w fun e w'=>e=.returned (.tuple #[.string (itx (-x)),.int .i64 0])∧Below w.heap.size w w':=by
 have H1:=Lib.hid (fun w=>ione_walk x (by have:=itx_size x; omega) w)
 have H2:=Lib.hid (fun w=>opposite_walk x w)
 have H3:=Lib.hid (fun w=>itext_walk (-x) (by have:=dg_def (-x).natAbs; rw [Int.natAbs_neg] at *; omega) w)
 clear hx
 generalize itx x=s at *
 generalize itx (-x)=t at *
 obtain ⟨b1,d1,e1⟩:=IV_shape x
 obtain ⟨b2,d2,e2⟩:=IV_shape (-x)
 rw [e1] at H1 H2
 rw [e2] at H2 H3
 clear e1 e2
 go_enter Tryz.func211,Tryz.ntmps211
 go_wp2_with fail
 refine (H1.out _).mono ?_
 rintro e w1 ⟨rfl,g1⟩
 have B1:=bn (w:=w) bel g1
 clear g1
 go_wp2_with fail
 refine (H2.out _).mono ?_
 rintro e w2 ⟨rfl,g2⟩
 have B2:=bn (w:=w) bel g2
 clear g2
 go_wp2_with fail
 refine (H3.out _).mono ?_
 rintro e w3 ⟨rfl,g3⟩
 have B3:=bn (w:=w) bel g3
 clear g3
 go_wp2
 go_ret2
 exact ⟨rfl,bel⟩
set_option maxHeartbeats 1000000 in
theorem iAdd_walk (x y : Int) (hx : dg x.natAbs≤50000000) (hy : dg y.natAbs≤50000000) (w : World) (hB : Bw w) :
  Calls Tryz.prog 209 #[.string (itx x),.string (itx y)] w fun e w'=>e=.returned (.tuple #[.string (itx (x+y)),.int .i64 0])∧Below w.heap.size w w':=by
 have hs : dg (x+y).natAbs≤50000001:=by
  have:=dg_add x.natAbs y.natAbs
  have:=dg_mono (Int.natAbs_add_le x y)
  omega
 have H1:=Lib.hid (fun w=>iboth_walk x y (by have:=itx_size x; omega) (by have:=itx_size y; omega) w)
 have H2:=Lib.hid (fun w hB=>iplus_walk x y hx hy w hB)
 have H3:=Lib.hid (fun w=>itext_walk (x+y) (by have:=dg_def (x+y).natAbs; omega) w)
 clear hx hy hs
 generalize itx x=s at *
 generalize itx y=t at *
 generalize itx (x+y)=u at *
 obtain ⟨b1,d1,e1⟩:=IV_shape x
 obtain ⟨b2,d2,e2⟩:=IV_shape y
 obtain ⟨b3,d3,e3⟩:=IV_shape (x+y)
 rw [e1,e2] at H1 H2
 rw [e3] at H2 H3
 clear e1 e2 e3
 go_enter Tryz.func209,Tryz.ntmps209
 go_wp2_with fail
 refine (H1.out _).mono ?_
 rintro e w1 ⟨rfl,g1⟩
 have B1:=bn (w:=w) bel g1
 clear g1
 go_wp2_with fail
 refine (H2.out _ (hB.below bel)).mono ?_
 rintro e w2 ⟨rfl,g2⟩
 have B2:=bn (w:=w) bel g2
 clear g2
 go_wp2_with fail
 refine (H3.out _).mono ?_
 rintro e w3 ⟨rfl,g3⟩
 have B3:=bn (w:=w) bel g3
 clear g3
 go_wp2
 go_ret2
 exact ⟨rfl,bel⟩
set_option maxHeartbeats 1000000 in
theorem iMul_walk (x y : Int) (hx : dg x.natAbs≤50000000) (hy : dg y.natAbs≤50000000) (w : World) (hB : Bw w) :
  Calls Tryz.prog 95 #[.string (itx x),.string (itx y)] w fun e w'=>e=.returned (.tuple #[.string (itx (x * y)),.int .i64 0])∧Below w.heap.size w w':=by
 have hs : dg (x * y).natAbs≤100000000:=by
  have:=dg_mul x.natAbs y.natAbs
  rw [Int.natAbs_mul]
  omega
 have H1:=Lib.hid (fun w=>iboth_walk x y (by have:=itx_size x; omega) (by have:=itx_size y; omega) w)
 have H2:=Lib.hid (fun w hB=>itimes_walk x y hx hy w hB)
 have H3:=Lib.hid (fun w=>itext_walk (x * y) (by have:=dg_def (x * y).natAbs; omega) w)
 clear hx hy hs
 generalize itx x=s at *
 generalize itx y=t at *
 generalize itx (x * y)=u at *
 obtain ⟨b1,d1,e1⟩:=IV_shape x
 obtain ⟨b2,d2,e2⟩:=IV_shape y
 obtain ⟨b3,d3,e3⟩:=IV_shape (x * y)
 rw [e1,e2] at H1 H2
 rw [e3] at H2 H3
 clear e1 e2 e3
 go_enter Tryz.func95,Tryz.ntmps95
 go_wp2_with fail
 refine (H1.out _).mono ?_
 rintro e w1 ⟨rfl,g1⟩
 have B1:=bn (w:=w) bel g1
 clear g1
 go_wp2_with fail
 refine (H2.out _ (hB.below bel)).mono ?_
 rintro e w2 ⟨rfl,g2⟩
 have B2:=bn (w:=w) bel g2
 clear g2
 go_wp2_with fail
 refine (H3.out _).mono ?_
 rintro e w3 ⟨rfl,g3⟩
 have B3:=bn (w:=w) bel g3
 clear g3
 go_wp2
 go_ret2
 exact ⟨rfl,bel⟩
def icmp (x y : Int) : Int:=sgn (x - y)
set_option maxHeartbeats 1000000 in
theorem iCompare_walk (x y : Int) (hx : dg x.natAbs≤50000000) (hy : dg y.natAbs≤50000000) (w : World) (hB : Bw w) :
  Calls Tryz.prog 96 #[.string (itx x),.string (itx y)] w fun e w'=>e=.returned (.tuple #[.int .i64 (icmp x y),.int .i64 0])∧Below w.heap.size w w':=by
 have H1:=Lib.hid (fun w=>iboth_walk x y (by have:=itx_size x; omega) (by have:=itx_size y; omega) w)
 have H2:=Lib.hid (fun w=>opposite_walk y w)
 have H3:=Lib.hid (fun w hB=>iplus_walk x (-y) hx (by rw [Int.natAbs_neg]; exact hy) w hB)
 have H4:=Lib.hid (fun w=>sign_walk (x + -y) w)
 unfold icmp
 rw [Int.sub_eq_add_neg]
 clear hx hy
 generalize itx x=s at *
 generalize itx y=t at *
 generalize sgn (x + -y)=u at *
 obtain ⟨b1,d1,e1⟩:=IV_shape x
 obtain ⟨b2,d2,e2⟩:=IV_shape y
 obtain ⟨b3,d3,e3⟩:=IV_shape (-y)
 obtain ⟨b4,d4,e4⟩:=IV_shape (x + -y)
 rw [e1,e2] at H1
 rw [e2,e3] at H2
 rw [e1,e3,e4] at H3
 rw [e4] at H4
 clear e1 e2 e3 e4
 go_enter Tryz.func96,Tryz.ntmps96
 go_wp2_with fail
 refine (H1.out _).mono ?_
 rintro e w1 ⟨rfl,g1⟩
 have B1:=bn (w:=w) bel g1
 clear g1
 go_wp2
 go_region_held3 (fun w'=>w'.cell? ⟨w1.heap.size,0,none⟩=some (.bool b1)∧w'.cell? ⟨w1.heap.size,1,none⟩=some (.string d1)∧w'.cell? ⟨w1.heap.size+1,0,none⟩=some (.bool b2)∧w'.cell? ⟨w1.heap.size+1,1,none⟩=some (.string d2)∧Below w.heap.size w w')
  ((go_split_ands; refine ⟨?_, ?_, ?_, ?_, ?_⟩<;>first | (go_simp; done) | (exact bcs g) | (exact bn bel g) | exact bel))
  (first | (go_at_call 145; refine (H2.out _).mono ?_; rintro e wo ⟨rfl,g⟩) | (go_at_call 144; refine (H3.out _ (hB.below (by go_split_ands; assumption))).mono ?_; rintro e wp ⟨rfl,g⟩) | (go_at_call 146; refine (H4.out _).mono ?_; rintro e wq ⟨rfl,g⟩))
 go_split_ands
 go_wp2
 go_ret2
 exact ⟨rfl,bel⟩
end Go.Proofs.YtopfedbhkfdjkaaGreatDoor


/- integer: DivMod on texts. -/
namespace Go.Proofs.YtopfedbhkfdjkaaGreatDoor
open Go Go.RowKit
set_option maxHeartbeats 1000000 in
theorem iDivMod_walk (x y : Int) (h0 : y≠0) (hx : dg x.natAbs≤50000000) (hy : dg y.natAbs≤50000000) (w : World) (hB : Bw w) :
  Calls Tryz.prog 229 #[.string (itx x),.string (itx y)] w fun e w'=>e=.returned (.tuple #[.string (itx (x / y)),.string (itx (x % y)),.int .i64 0])∧Below w.heap.size w w':=by
 have hq : dg (x / y).natAbs≤50000000:=Nat.le_trans (dg_mono (Int.natAbs_ediv_le_natAbs _ _)) hx
 have hr : dg (x % y).natAbs≤50000000:=by
  refine Nat.le_trans (dg_mono ?_) hy
  have h1:=Int.emod_nonneg x h0
  have h2:=Int.emod_lt x h0
  omega
 have H1:=Lib.hid (fun w=>iboth_walk x y (by have:=itx_size x; omega) (by have:=itx_size y; omega) w)
 have H2:=Lib.hid (fun w hB=>idivide_walk x y h0 hx hy w hB)
 have H3:=Lib.hid (fun w=>itext_walk (x / y) (by have:=dg_def (x / y).natAbs; omega) w)
 have H4:=Lib.hid (fun w=>itext_walk (x % y) (by have:=dg_def (x % y).natAbs; omega) w)
 have hd : ((dec y.natAbs).toList == [48])=false:=by
  rw [dec_ne]
  exact decide_eq_false (by omega)
 rw [IV_eq y] at H1 H2
 clear hx hy hq hr h0
 generalize itx x=s at *
 generalize itx y=t at *
 generalize itx (x / y)=u at *
 generalize itx (x % y)=v at *
 obtain ⟨b1,d1,e1⟩:=IV_shape x
 obtain ⟨b3,d3,e3⟩:=IV_shape (x / y)
 obtain ⟨b4,d4,e4⟩:=IV_shape (x % y)
 rw [e1] at H1 H2
 rw [e3] at H2 H3
 rw [e4] at H2 H4
 clear e1 e3 e4
 generalize decide (y<0)=b2 at *
 generalize dec y.natAbs=d2 at *
 have heq:=eql_number
 go_enter Tryz.func229,Tryz.ntmps229
 go_wp2_with fail
 refine (H1.out _).mono ?_
 rintro e w1 ⟨rfl,g1⟩
 have B1:=bn (w:=w) bel g1
 clear g1
 go_wp2
 go_region_held3 (fun w'=>w'.cell? ⟨w1.heap.size,0,none⟩=some (.bool b1)∧w'.cell? ⟨w1.heap.size,1,none⟩=some (.string d1)∧w'.cell? ⟨w1.heap.size+1,0,none⟩=some (.bool b2)∧w'.cell? ⟨w1.heap.size+1,1,none⟩=some (.string d2)∧Below w.heap.size w w')
  ((go_split_ands; refine ⟨?_, ?_, ?_, ?_, ?_⟩<;>first | (go_simp; done) | (exact bcs g) | (exact bn bel g) | exact bel))
  (first | (go_at_call 173; refine (zero_lit _).mono ?_; rintro e wz ⟨rfl,g⟩))
 have B2:=bn (w:=w) bel g
 have k1:=bc (b:=w1.heap.size) (o:=0) (v:=.bool b1) g (by go_simp)
 have k2:=bc (b:=w1.heap.size) (o:=1) (v:=.string d1) g (by go_simp)
 have k3:=bc (b:=w1.heap.size+1) (o:=0) (v:=.bool b2) g (by go_simp)
 have k4:=bc (b:=w1.heap.size+1) (o:=1) (v:=.string d2) g (by go_simp)
 clear g heq
 go_wp2_with fail
 refine (H2.out _ (hB.below B2)).mono ?_
 rintro e w2 ⟨rfl,g2⟩
 have B3 : Below w.heap.size w w2:=bn B2 g2
 clear g2 B2
 go_wp2
 go_region_held3 (fun w'=>w'.cell? ⟨w2.heap.size,0,none⟩=some (.bool b3)∧w'.cell? ⟨w2.heap.size,1,none⟩=some (.string d3)∧w'.cell? ⟨w2.heap.size+1,0,none⟩=some (.bool b4)∧w'.cell? ⟨w2.heap.size+1,1,none⟩=some (.string d4)∧Below w.heap.size w w')
  ((go_split_ands; refine ⟨?_, ?_, ?_, ?_, ?_⟩<;>first | (go_simp; done) | (exact bcs g) | (exact bn bel g) | exact bel))
  (first | (go_at_call_of 143 (Value.agg #[.bool b3,.string d3]); refine (H3.out _).mono ?_; rintro e wx ⟨rfl,g⟩) | (go_at_call_of 143 (Value.agg #[.bool b4,.string d4]); refine (H4.out _).mono ?_; rintro e wx ⟨rfl,g⟩))
 all_goals
  go_split_ands
  go_wp2
  go_ret3
  exact ⟨rfl,bel⟩
end Go.Proofs.YtopfedbhkfdjkaaGreatDoor
