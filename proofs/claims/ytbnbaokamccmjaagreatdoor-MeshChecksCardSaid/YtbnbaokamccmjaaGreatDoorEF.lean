/- garboardref03: a rational of the reference; lowest, Sign, Int. -/
import Derived.Test.YtbnbaokamccmjaaGreatDoorEE
set_option linter.unusedVariables false
set_option linter.unusedSimpArgs false
namespace Go.Proofs.YtbnbaokamccmjaaGreatDoor
open Go Go.RowKit
theorem Num.set3 {W : World} {v : Value} {n : Nat} (h : Num W v n) {p q r : Addr} {x y z : Value} (hp : W.cell? p=some x) (hx : ∀ k i,x≠.int k i) (hq : W.cell? q=some y) (hy : ∀ k i,y≠.int k i) (hr : W.cell? r=some z) (hz : ∀ k i,z≠.int k i) (hpq : p≠q) (hpr : p≠r) (hqr : q≠r) (a b c : Value) : Num (((W.setCell p a).setCell q b).setCell r c) v n :=
 (h.set2 hp hx hq hy hpq a b).set ((World.cell?_setCell_other (h:=hqr) ..).trans ((World.cell?_setCell_other (h:=hpr) ..).trans hr)) hz c
def Qn (w : World) (z : Value) (r : Rat) : Prop:=∃ v d,z=.agg #[.bool (decide (r.num<0)),v,d]∧Num w v r.num.natAbs∧Num w d r.den
theorem Qn.below {w w1 : World} {z : Value} {r : Rat} (h : Qn w z r) (hb : Below w.heap.size w w1) : Qn w1 z r:=by
 obtain ⟨x,d,hv,hx,hd⟩:=h
 exact ⟨x,d,hv,hx.below hb,hd.below hb⟩
theorem Qn.open {w : World} {z : Value} {r : Rat} (h : Qn w z r) : ∃ A1 c1 A2 c2,z=.agg #[.bool (decide (r.num<0)),.slice A1 (wds r.num.natAbs).length c1,.slice A2 (wds r.den).length c2]∧Num w (.slice A1 (wds r.num.natAbs).length c1) r.num.natAbs∧Num w (.slice A2 (wds r.den).length c2) r.den:=by
 obtain ⟨v,d,rfl,hv,hd⟩:=h
 obtain ⟨A1,c1,rfl,_⟩:=hv.open
 obtain ⟨A2,c2,rfl,_⟩:=hd.open
 exact ⟨A1,c1,A2,c2,rfl,hv,hd⟩
theorem qn_of {w : World} {v u : Value} {c b : Bool} {n d : Nat} {r : Rat} (hc : c=(b && decide (0<n))) (hi : zmk b n=r.num) (hd : d=r.den) (h : Num w v n) (g : Num w u d) : Qn w (.agg #[.bool c,v,u]) r:=by
 refine ⟨v,u, ?_, ?_,by rw [← hd]; exact g⟩
 ·rw [← hi,zmk_neg,hc]
 ·rw [← hi,zmk_abs]; exact h
theorem mkq_num (b : Bool) (n d : Nat) (h0 : 0<d) : (mkRat (zmk b n) d).num=zmk b (n / Nat.gcd n d)∧(mkRat (zmk b n) d).den=d / Nat.gcd n d:=by
 rw [Rat.num_mkRat,Rat.den_mkRat,Nat.gcd_comm d,zmk_abs]
 have h1 : ¬ d=0:=by omega
 have hg : ((Nat.gcd n d : Nat) : Int) ∣ (n : Int):=Int.natCast_dvd_natCast.2 (Nat.gcd_dvd_left _ _)
 simp only [h1,if_false,and_true]
 cases b
 ·simp [zmk]
 ·simp [zmk,Int.neg_ediv_of_dvd hg]
set_option maxRecDepth 100000 in
set_option maxHeartbeats 2000000 in
theorem zLow_one (b : Bool) (v u : Value) (n d : Nat) (h0 : 0<d) (hg1 : Nat.gcd n d=1) (w : World) (h : Num w v n) (g : Num w u d) (hf : (wds n).length≤900000000) (gf : (wds d).length≤900000000) (hb : b=(b && decide (0<n))) :
  Calls Tryz.prog 143 #[.agg #[.bool b,v],u] w (Ret fun v' w'=>Qn w' v' (mkRat (zmk b n) d)∧Below w.heap.size w w'):=by
 obtain ⟨q1,q2⟩:=mkq_num b n d h0
 rw [hg1,Nat.div_one] at q1 q2
 have Q1:=Lib.hid q1
 have Q2:=Lib.hid q2
 have HB:=Lib.hid hb
 have HG:=Lib.hid hg1
 clear q1 q2 hb hg1
 generalize mkRat (zmk b n) d=r at *
 obtain ⟨A,cap,hA,_,_,_⟩:=h.open
 subst hA
 obtain ⟨B,cap',hB,_,_,_⟩:=g.open
 subst hB
 go_enter Tryz.func143,Tryz.ntmps143
 go_wp2_with fail
 refine (rCommon_walk _ _ n d _ (h.below bel) (g.below bel) hf gf).mono ?_
 rintro e w1 ⟨v1,rfl,r1,g1⟩
 rw [HG.out] at r1
 obtain ⟨A1,cap1,hA1,k1,k2,k3⟩:=r1.open
 subst hA1
 have e1 : (wds 1).length=1:=by rw [wds_one_word (by decide) (by rw [wB_eq]; omega)]; rfl
 obtain ⟨bb,off,rfl,hcl⟩:=k3 (by rw [e1]; exact Nat.one_pos)
 have hck:=hcl 0 (by rw [e1]; exact Nat.one_pos)
 rw [show wd (wds 1) 0=1 by rw [wds_one_word (by decide) (by rw [wB_eq]; omega)]; rfl,Nat.add_zero] at hck
 rw [e1] at *
 clear k3 hcl
 have hz1 : w.heap.size+1<w1.heap.size:=hzs g1
 have hz1_0 : w.heap.size<w1.heap.size:=by omega
 have B1:=bn (w:=w) bel g1
 have c1_0_0:=bcv g1 w.heap.size 0 (.bool b)
 have f1_0_0:=bfv g1 w.heap.size 0
 have c1_0_1:=bcv g1 w.heap.size 1 (.slice A (wds n).length cap)
 have f1_0_1:=bfv g1 w.heap.size 1
 have c1_1_0:=bcv g1 (w.heap.size+1) 0 (.bool false)
 have f1_1_0:=bfv g1 (w.heap.size+1) 0
 have c1_1_1:=bcv g1 (w.heap.size+1) 1 (.slice none 0 0)
 have f1_1_1:=bfv g1 (w.heap.size+1) 1
 have c1_1_2:=bcv g1 (w.heap.size+1) 2 (.slice none 0 0)
 have f1_1_2:=bfv g1 (w.heap.size+1) 2
 clear g1
 go_wp2
 refine bodyPost_ret (v:=.agg #[.bool b,.slice A (wds n).length cap,.slice B (wds d).length cap']) (by simp [results,Tryz.results143,go_sem, *]) rfl ?_
 exact ⟨_,rfl,qn_of HB.out Q1.out.symm Q2.out.symm (h.below bel) (g.below bel),bel⟩
set_option maxRecDepth 100000 in
set_option maxHeartbeats 2000000 in
theorem zLow_two (b : Bool) (v u : Value) (n d : Nat) (h0 : 0<d) (hg1 : Nat.gcd n d≠1) (w : World) (h : Num w v n) (g : Num w u d) (hf : (wds n).length≤900000000) (gf : (wds d).length≤900000000) (hb : b=(b && decide (0<n))) :
  Calls Tryz.prog 143 #[.agg #[.bool b,v],u] w (Ret fun v' w'=>Qn w' v' (mkRat (zmk b n) d)∧Below w.heap.size w w'):=by
 obtain ⟨q1,q2⟩:=mkq_num b n d h0
 have Q1:=Lib.hid q1
 have Q2:=Lib.hid q2
 clear q1 q2 hb
 generalize mkRat (zmk b n) d=r at *
 obtain ⟨gd,hgd⟩ : ∃ gd,gd=Nat.gcd n d:=⟨_,rfl⟩
 have hgp : 0<gd:=by rw [hgd]; exact Nat.gcd_pos_of_pos_right _ h0
 rw [← hgd] at hg1 Q1 Q2
 have HGD:=Lib.hid hgd
 clear hgd
 obtain ⟨A,cap,hA,_,_,_⟩:=h.open
 subst hA
 obtain ⟨B,cap',hB,_,_,_⟩:=g.open
 subst hB
 obtain ⟨c,hcc⟩ : ∃ c,c=(b && decide (0<n / gd)):=⟨_,rfl⟩
 have hMk:=fun W v q=>zMake_walk b v (n / gd) W q
 rw [← hcc] at hMk
 have HC:=Lib.hid hcc
 have HM:=Lib.hid hMk
 have HGP:=Lib.hid hgp
 have HF:=Lib.hid hf
 have GF:=Lib.hid gf
 clear hcc hMk h0 hf gf
 have hlg : 0<(wds gd).length:=wds_length_pos.2 hgp
 by_cases hl : (wds gd).length=1
 case' pos =>
  have hw1:=(wds_len1 hl).1
  have k0 : (((wds gd).length : Int) == 1)=true:=by rw [hl]; rfl
  have k1 : ((gd : Int) == 1)=false:=beq_eq_false_iff_ne.2 (by omega)
  clear hl
 case' neg =>
  have k0 : (((wds gd).length : Int) == 1)=false:=beq_eq_false_iff_ne.2 (by omega)
  clear hl
 all_goals
  clear hg1 hgp
  go_enter Tryz.func143,Tryz.ntmps143
  go_wp2_with fail
  refine (rCommon_walk _ _ n d _ (h.below bel) (g.below bel) HF.out GF.out).mono ?_
  rintro e w1 ⟨v1,rfl,r1,g1⟩
  rw [← HGD.out] at r1
  obtain ⟨A1,cap1,hA1,z1,z2,z3⟩:=r1.open
  subst hA1
  obtain ⟨bb,off,hA1,hcl⟩:=z3 hlg
  subst hA1
  have hck:=hcl 0 hlg
  rw [Nat.add_zero] at hck
  try rw [hw1] at hck
  clear z3 hcl
  have hz1 : w.heap.size+1<w1.heap.size:=hzs g1
  have hz1_0 : w.heap.size<w1.heap.size:=by omega
  have B1:=bn (w:=w) bel g1
  have c1_0_0:=bcv g1 w.heap.size 0 (.bool b)
  have f1_0_0:=bfv g1 w.heap.size 0
  have c1_0_1:=bcv g1 w.heap.size 1 (.slice A (wds n).length cap)
  have f1_0_1:=bfv g1 w.heap.size 1
  have c1_1_0:=bcv g1 (w.heap.size+1) 0 (.bool false)
  have f1_1_0:=bfv g1 (w.heap.size+1) 0
  have c1_1_1:=bcv g1 (w.heap.size+1) 1 (.slice none 0 0)
  have f1_1_1:=bfv g1 (w.heap.size+1) 1
  have c1_1_2:=bcv g1 (w.heap.size+1) 2 (.slice none 0 0)
  have f1_1_2:=bfv g1 (w.heap.size+1) 2
  clear g1
  go_wp2_with fail
  refine (rOver_walk _ _ n gd HGP.out _ (h.below bel) r1 HF.out).mono ?_
  rintro e w2 ⟨v2,v3,rfl,r2,r3,g2⟩
  have q1:=r1.below g2
  have hz2 : w.heap.size+1<w2.heap.size:=hzs g2
  have hz2_0 : w.heap.size<w2.heap.size:=by omega
  have B2:=bn (w:=w) bel g2
  have c2_0_0:=bcv g2 w.heap.size 0 (.bool b)
  have f2_0_0:=bfv g2 w.heap.size 0
  have c2_0_1:=bcv g2 w.heap.size 1 (.slice A (wds n).length cap)
  have f2_0_1:=bfv g2 w.heap.size 1
  have c2_1_0:=bcv g2 (w.heap.size+1) 0 (.bool false)
  have f2_1_0:=bfv g2 (w.heap.size+1) 0
  have c2_1_1:=bcv g2 (w.heap.size+1) 1 (.slice none 0 0)
  have f2_1_1:=bfv g2 (w.heap.size+1) 1
  have c2_1_2:=bcv g2 (w.heap.size+1) 2 (.slice none 0 0)
  have f2_1_2:=bfv g2 (w.heap.size+1) 2
  clear g2
  clear r1 c1_0_0 c1_0_1 c1_1_0 c1_1_1 c1_1_2 f1_0_0 f1_0_1 f1_1_0 f1_1_1 f1_1_2 hck
  go_wp2_with fail
  refine (rOver_walk _ _ d gd HGP.out _ (g.below bel) q1 GF.out).mono ?_
  rintro e w3 ⟨v4,v5,rfl,r4,r5,g3⟩
  have q2:=r2.below g3
  obtain ⟨A2,cap2,hA2,_,_,_⟩:=q2.open
  subst hA2
  obtain ⟨A4,cap4,hA4,_,_,_⟩:=r4.open
  subst hA4
  have hz3 : w.heap.size+1<w3.heap.size:=hzs g3
  have hz3_0 : w.heap.size<w3.heap.size:=by omega
  have B3:=bn (w:=w) bel g3
  have c3_0_0:=bcv g3 w.heap.size 0 (.bool b)
  have f3_0_0:=bfv g3 w.heap.size 0
  have c3_0_1:=bcv g3 w.heap.size 1 (.slice A (wds n).length cap)
  have f3_0_1:=bfv g3 w.heap.size 1
  have c3_1_0:=bcv g3 (w.heap.size+1) 0 (.bool false)
  have f3_1_0:=bfv g3 (w.heap.size+1) 0
  have c3_1_1:=bcv g3 (w.heap.size+1) 1 (.slice none 0 0)
  have f3_1_1:=bfv g3 (w.heap.size+1) 1
  have c3_1_2:=bcv g3 (w.heap.size+1) 2 (.slice none 0 0)
  have f3_1_2:=bfv g3 (w.heap.size+1) 2
  clear g3
  clear r3 r5 r2 q1 c2_0_0 c2_0_1 c2_1_0 c2_1_1 c2_1_2 f2_0_0 f2_0_1 f2_1_0 f2_1_1 f2_1_2
  go_wp2_with fail
  refine (HM.out _ _ q2).mono ?_
  rintro e w4 ⟨rfl,g4⟩
  have q3:=q2.below g4
  have q4:=r4.below g4
  have hz4 : w.heap.size+1<w4.heap.size:=hzs g4
  have hz4_0 : w.heap.size<w4.heap.size:=by omega
  have B4:=bn (w:=w) bel g4
  have c4_1_0:=bcv g4 (w.heap.size+1) 0 (.bool false)
  have f4_1_0:=bfv g4 (w.heap.size+1) 0
  have c4_1_1:=bcv g4 (w.heap.size+1) 1 (.slice none 0 0)
  have f4_1_1:=bfv g4 (w.heap.size+1) 1
  have c4_1_2:=bcv g4 (w.heap.size+1) 2 (.slice none 0 0)
  have f4_1_2:=bfv g4 (w.heap.size+1) 2
  clear g4
  go_wp2
  refine bodyPost_ret (v:=.agg #[.bool c,.slice A2 (wds (n / gd)).length cap2,.slice A4 (wds (d / gd)).length cap4]) (by simp [results,Tryz.results143,go_sem, *]) rfl ?_
  exact ⟨_,rfl,qn_of HC.out Q1.out.symm Q2.out.symm (q3.set3 c4_1_0 (by simp) c4_1_1 (by simp) c4_1_2 (by simp) (by simp) (by simp) (by simp) _ _ _) (q4.set3 c4_1_0 (by simp) c4_1_1 (by simp) c4_1_2 (by simp) (by simp) (by simp) (by simp) _ _ _),bel⟩
theorem zLow_walk (x u : Value) (i : Int) (d : Nat) (h0 : 0<d) (w : World) (h : Zn w x i) (g : Num w u d) (hf : (wds i.natAbs).length≤900000000) (gf : (wds d).length≤900000000) :
  Calls Tryz.prog 143 #[x,u] w (Ret fun v' w'=>Qn w' v' (mkRat i d)∧Below w.heap.size w w'):=by
 obtain ⟨v,rfl,h⟩:=h
 have hb : decide (i<0)=(decide (i<0) && decide (0<i.natAbs)):=by
  by_cases hi : i<0
  ·have : 0<i.natAbs:=by omega
   simp [hi,this]
  ·simp [hi]
 by_cases hg : Nat.gcd i.natAbs d=1
 ·have:=zLow_one (decide (i<0)) v u i.natAbs d h0 hg w h g hf gf hb
  rwa [zmk_self] at this
 ·have:=zLow_two (decide (i<0)) v u i.natAbs d h0 hg w h g hf gf hb
  rwa [zmk_self] at this
end Go.Proofs.YtbnbaokamccmjaaGreatDoor

/- garboardref03: Mul, Neg, Sub, Sign, Int. -/
namespace Go.Proofs.YtbnbaokamccmjaaGreatDoor
open Go Go.RowKit
theorem Zn.open {w : World} {z : Value} {i : Int} (h : Zn w z i) : ∃ A c,z=.agg #[.bool (decide (i<0)),.slice A (wds i.natAbs).length c]∧Num w (.slice A (wds i.natAbs).length c) i.natAbs:=by
 obtain ⟨v,rfl,h⟩:=h
 obtain ⟨A,c,rfl,_⟩:=h.open
 exact ⟨A,c,rfl,h⟩
theorem Qn.set3 {W : World} {v : Value} {n : Rat} (h : Qn W v n) {p q r : Addr} {x y z : Value} (hp : W.cell? p=some x) (hx : ∀ k i,x≠.int k i) (hq : W.cell? q=some y) (hy : ∀ k i,y≠.int k i) (hr : W.cell? r=some z) (hz : ∀ k i,z≠.int k i) (hpq : p≠q) (hpr : p≠r) (hqr : q≠r) (a b c : Value) : Qn (((W.setCell p a).setCell q b).setCell r c) v n:=by
 obtain ⟨v,d,hv,hn,hd⟩:=h
 exact ⟨v,d,hv,hn.set3 hp hx hq hy hr hz hpq hpr hqr a b c,hd.set3 hp hx hq hy hr hz hpq hpr hqr a b c⟩
theorem rz_words (q : Rat) : (wds q.num.natAbs).length≤rz q∧(wds q.den).length≤rz q:=⟨Nat.le_trans (wds_le_dg _) (rz_num q),Nat.le_trans (wds_le_dg _) (rz_den q)⟩
theorem mul_words (n m : Nat) : (wds (n * m)).length≤(wds n).length + (wds m).length:=by
 refine wds_lt_pow ?_
 rw [Nat.pow_add]
 have h1:=lt_wds_pow n
 have h2:=lt_wds_pow m
 exact Nat.mul_lt_mul_of_lt_of_le h1 (Nat.le_of_lt h2) (Nat.pow_pos wB_pos)
set_option maxHeartbeats 400000 in
theorem qSign_walk (x : Value) (r : Rat) (w : World) (h : Qn w x r) :
  Calls Tryz.prog 63 #[x] w fun e w'=>e=.returned (.int .i64 r.num.sign)∧Below w.heap.size w w':=by
 obtain ⟨A,Ac,B,Bc,hX,hx1,hx2⟩:=h.open
 subst hX
 obtain ⟨b1,hb1⟩ : ∃ b,b=decide (r.num<0):=⟨_,rfl⟩
 rw [← hb1]
 have HS:=Lib.hid (fun W hW=>zSignum_walk (.agg #[.bool b1,.slice A (wds r.num.natAbs).length Ac]) r.num W ⟨_,by rw [← hb1],Num.below (w1:=W) hx1 hW⟩)
 clear hb1
 go_enter Tryz.func63,Tryz.ntmps63
 go_wp2_with fail
 refine (HS.out _ bel).mono ?_
 rintro e w1 ⟨rfl,g1⟩
 have B1:=bn (w:=w) bel g1
 clear g1
 go_wp2
 go_ret
 exact ⟨rfl,bel⟩
set_option maxHeartbeats 1000000 in
theorem qInt_walk (k : Int) (hk0 : -4294967295≤k) (hk : k≤4294967295) (w : World) :
  Calls Tryz.prog 137 #[.int .i64 k] w (Ret fun v' w'=>Qn w' v' (k : Rat)∧Below w.heap.size w w'):=by
 have HZ:=Lib.hid (fun W=>zSmall_walk k hk0 hk W)
 clear hk0 hk
 go_enter Tryz.func137,Tryz.ntmps137
 go_wp2_with fail
 refine (HZ.out _).mono ?_
 rintro e w1 ⟨v1,rfl,r1,g1⟩
 obtain ⟨A,Ac,hA,z1⟩:=r1.open
 subst hA
 have hz1 : w.heap.size<w1.heap.size:=hzs g1
 have B1:=bn (w:=w) bel g1
 have c1_0_0:=bcv g1 w.heap.size 0 (.bool false)
 have f1_0_0:=bfv g1 w.heap.size 0
 have c1_0_1:=bcv g1 w.heap.size 1 (.slice none 0 0)
 have f1_0_1:=bfv g1 w.heap.size 1
 have c1_0_2:=bcv g1 w.heap.size 2 (.slice none 0 0)
 have f1_0_2:=bfv g1 w.heap.size 2
 clear g1
 go_wp2_with fail
 refine (rSmall_walk 1 (by omega) _).mono ?_
 rintro e w2 ⟨v2,rfl,r2,g2⟩
 have r2n:=r2.num
 obtain ⟨B,Bc,hB,_⟩:=r2n.open
 subst hB
 have z2:=z1.below g2
 have hz2 : w.heap.size<w2.heap.size:=hzs g2
 have B2:=bn (w:=w) bel g2
 have c2_0_0:=bcv g2 w.heap.size 0 (.bool false)
 have f2_0_0:=bfv g2 w.heap.size 0
 have c2_0_1:=bcv g2 w.heap.size 1 (.slice none 0 0)
 have f2_0_1:=bfv g2 w.heap.size 1
 have c2_0_2:=bcv g2 w.heap.size 2 (.slice none 0 0)
 have f2_0_2:=bfv g2 w.heap.size 2
 clear g2
 go_wp2
 refine bodyPost_ret (v:=.agg #[.bool (decide (k<0)),.slice A (wds k.natAbs).length Ac,.slice B (wds 1).length Bc]) (by simp [results,Tryz.results137,go_sem, *]) rfl ?_
 exact ⟨_,rfl,Qn.set3 (n:=(k : Rat)) ⟨_,_,by rw [show ((k : Rat).num)=k from rfl],z2,r2n⟩ c2_0_0 (by simp) c2_0_1 (by simp) c2_0_2 (by simp) (by simp) (by simp) (by simp) _ _ _,bel⟩
set_option maxHeartbeats 1000000 in
theorem qNeg_walk (x : Value) (r : Rat) (w : World) (h : Qn w x r) :
  Calls Tryz.prog 71 #[x] w (Ret fun v' w'=>Qn w' v' (-r)∧Below w.heap.size w w'):=by
 obtain ⟨A,Ac,B,Bc,hX,hx1,hx2⟩:=h.open
 subst hX
 obtain ⟨b1,hb1⟩ : ∃ b,b=decide (r.num<0):=⟨_,rfl⟩
 rw [← hb1]
 have hO:=fun W hW=>zOpposite_walk (.agg #[.bool b1,.slice A (wds r.num.natAbs).length Ac]) r.num W ⟨_,by rw [← hb1],Num.below (w1:=W) hx1 hW⟩
 rw [show -r.num=(-r).num from rfl] at hO
 obtain ⟨q,hq⟩ : ∃ q,q = -r:=⟨_,rfl⟩
 rw [← hq] at hO ⊢
 have HO:=Lib.hid hO
 have HD : Hid (r.den=q.den):=Lib.hid (by rw [hq]; rfl)
 clear hb1 hO h hq
 go_enter Tryz.func71,Tryz.ntmps71
 go_wp2
 go_region_held3 (fun w'=>w'.cell? ⟨w.heap.size,0,none⟩=some (.bool b1)∧w'.cell? ⟨w.heap.size,1,none⟩=some (.slice A (wds r.num.natAbs).length Ac)∧w'.cell? ⟨w.heap.size,2,none⟩=some (.slice B (wds r.den).length Bc)∧Below w.heap.size w w')
  ((go_split_ands; refine ⟨?_, ?_, ?_, ?_⟩<;>first | with_reducible assumption | ((with_reducible refine cal ?_); with_reducible assumption) | ((with_reducible refine bc g ?_); with_reducible assumption) | ((with_reducible refine cset ?_ ?_)<;>first | with_reducible assumption | ((try simp)<;>omega)) | ((with_reducible refine zal ?_); with_reducible assumption) | ((with_reducible refine zset ?_); with_reducible assumption) | ((with_reducible refine Nat.lt_of_lt_of_le ?_ g.size); with_reducible assumption) | ((with_reducible refine ba ?_); with_reducible assumption) | ((with_reducible refine bn ?_ g); with_reducible assumption) | ((with_reducible refine bs ?_ ?_)<;>first | with_reducible assumption | ((try simp)<;>omega)) | ((with_reducible refine Bk.below ?_ g); with_reducible assumption) | ((with_reducible refine Bk.alloc ?_ _); with_reducible assumption) | ((with_reducible refine Bk.far ?_ ?_ _)<;>first | with_reducible assumption | ((try simp)<;>omega)) | ((with_reducible refine Bk.far (Bk.far (Bk.far ?_ ?_ _) ?_ _) ?_ _)<;>first | with_reducible assumption | ((try simp)<;>omega)) | ((with_reducible refine Bk.far (Bk.far (Bk.far (Bk.far ?_ ?_ _) ?_ _) ?_ _) ?_ _)<;>first | with_reducible assumption | ((try simp)<;>omega)) | (go_simp; done) | ((with_reducible refine Bk.drew ?_); exact bkk) | ((with_reducible refine bn ?_ g); exact bel) | exact bel))
  (first | (go_at_call 103; refine (HO.out _ (by go_split_ands; assumption)).mono ?_; rintro e w1 ⟨v1,rfl,r1,g1⟩; have g:=g1; obtain ⟨A1,cap1,hA1,z1⟩:=r1.open; subst hA1; have hz1 : w.heap.size+1<w1.heap.size:=hzs g1; have c1_1_0:=bcv g1 (w.heap.size+1) 0 (.bool false); have f1_1_0:=bfv g1 (w.heap.size+1) 0; have c1_1_1:=bcv g1 (w.heap.size+1) 1 (.slice none 0 0); have f1_1_1:=bfv g1 (w.heap.size+1) 1; have c1_1_2:=bcv g1 (w.heap.size+1) 2 (.slice none 0 0); have f1_1_2:=bfv g1 (w.heap.size+1) 2))
 go_split_ands
 go_wp2
 refine bodyPost_ret (v:=.agg #[.bool (decide (q.num<0)),.slice A1 (wds q.num.natAbs).length cap1,.slice B (wds r.den).length Bc]) (by simp [results,Tryz.results71,go_sem, *]) rfl ?_
 exact ⟨_,rfl,⟨_,_,rfl,z1.set3 c1_1_0 (by simp) c1_1_1 (by simp) c1_1_2 (by simp) (by simp) (by simp) (by simp) _ _ _,by rw [← HD.out]; exact hx2.below bel⟩,bel⟩
set_option maxRecDepth 100000 in
set_option maxHeartbeats 4000000 in
theorem qMul_walk (x y : Value) (r s : Rat) (w : World) (h : Qn w x r) (g : Qn w y s) (hr : rz r≤50000000) (hs : rz s≤50000000) :
  Calls Tryz.prog 152 #[x,y] w (Ret fun v' w'=>Qn w' v' (r * s)∧Below w.heap.size w w'):=by
 obtain ⟨A,Ac,B,Bc,hX,hx1,hx2⟩:=h.open
 subst hX
 obtain ⟨b1,hb1⟩ : ∃ b,b=decide (r.num<0):=⟨_,rfl⟩
 rw [← hb1]
 obtain ⟨C,Cc,D,Dc,hY,hy1,hy2⟩:=g.open
 subst hY
 obtain ⟨b2,hb2⟩ : ∃ b,b=decide (s.num<0):=⟨_,rfl⟩
 rw [← hb2]
 have r1:=rz_words r
 have r2:=rz_words s
 have l1:=mul_words r.den s.den
 have l2 : (wds (r.num * s.num).natAbs).length≤100000000:=by rw [Int.natAbs_mul]; have:=mul_words r.num.natAbs s.num.natAbs; omega
 have hT:=fun W hW=>zTimes_walk (.agg #[.bool b1,.slice A (wds r.num.natAbs).length Ac]) (.agg #[.bool b2,.slice C (wds s.num.natAbs).length Cc]) r.num s.num W ⟨_,by rw [← hb1],Num.below (w1:=W) hx1 hW⟩ ⟨_,by rw [← hb2],Num.below (w1:=W) hy1 hW⟩ (by omega) (by omega)
 have hU:=fun W (hW : Below w.heap.size w W)=>rTimes_walk _ _ r.den s.den W (hx2.below hW) (hy2.below hW) (by omega) (by omega)
 obtain ⟨k,hk⟩ : ∃ k,k=r.num * s.num:=⟨_,rfl⟩
 obtain ⟨m,hm⟩ : ∃ m,m=r.den * s.den:=⟨_,rfl⟩
 have hm0 : 0<m:=by rw [hm]; exact Nat.mul_pos r.den_pos s.den_pos
 have hq : r * s=mkRat k m:=by rw [Rat.mul_def',hk,hm]
 rw [← hk] at hT l2
 rw [← hm] at hU l1
 have HL:=Lib.hid (fun W x u hx hu=>zLow_walk x u k m hm0 W hx hu (by omega) (by omega))
 rw [← hq] at HL
 generalize r * s=q at *
 have HT:=Lib.hid hT
 have HU:=Lib.hid hU
 clear hT hU hb1 hb2 r1 r2 l1 l2 hk hm hm0 hq h g hr hs hx1 hx2 hy1 hy2
 go_enter Tryz.func152,Tryz.ntmps152
 go_wp2
 go_region_held3 (fun w'=>w'.cell? ⟨w.heap.size,0,none⟩=some (.bool b1)∧w'.cell? ⟨w.heap.size,1,none⟩=some (.slice A (wds r.num.natAbs).length Ac)∧w'.cell? ⟨w.heap.size,2,none⟩=some (.slice B (wds r.den).length Bc)∧w'.cell? ⟨w.heap.size+1,0,none⟩=some (.bool b2)∧w'.cell? ⟨w.heap.size+1,1,none⟩=some (.slice C (wds s.num.natAbs).length Cc)∧w'.cell? ⟨w.heap.size+1,2,none⟩=some (.slice D (wds s.den).length Dc)∧Below w.heap.size w w')
  ((go_split_ands; refine ⟨?_, ?_, ?_, ?_, ?_, ?_, ?_⟩<;>first | with_reducible assumption | ((with_reducible refine cal ?_); with_reducible assumption) | ((with_reducible refine bc g ?_); with_reducible assumption) | ((with_reducible refine cset ?_ ?_)<;>first | with_reducible assumption | ((try simp)<;>omega)) | ((with_reducible refine zal ?_); with_reducible assumption) | ((with_reducible refine zset ?_); with_reducible assumption) | ((with_reducible refine Nat.lt_of_lt_of_le ?_ g.size); with_reducible assumption) | ((with_reducible refine ba ?_); with_reducible assumption) | ((with_reducible refine bn ?_ g); with_reducible assumption) | ((with_reducible refine bs ?_ ?_)<;>first | with_reducible assumption | ((try simp)<;>omega)) | ((with_reducible refine Bk.below ?_ g); with_reducible assumption) | ((with_reducible refine Bk.alloc ?_ _); with_reducible assumption) | ((with_reducible refine Bk.far ?_ ?_ _)<;>first | with_reducible assumption | ((try simp)<;>omega)) | ((with_reducible refine Bk.far (Bk.far (Bk.far ?_ ?_ _) ?_ _) ?_ _)<;>first | with_reducible assumption | ((try simp)<;>omega)) | ((with_reducible refine Bk.far (Bk.far (Bk.far (Bk.far ?_ ?_ _) ?_ _) ?_ _) ?_ _)<;>first | with_reducible assumption | ((try simp)<;>omega)) | (go_simp; done) | ((with_reducible refine Bk.drew ?_); exact bkk) | ((with_reducible refine bn ?_ g); exact bel) | exact bel))
  (first | (go_at_call 173; refine (HT.out _ (by go_split_ands; assumption)).mono ?_; rintro e w1 ⟨v1,rfl,r1,g1⟩; have g:=g1; have hE1:=r1.open; obtain ⟨A1,cap1,hA1,_⟩:=hE1; subst hA1; have hz1 : w.heap.size+2<w1.heap.size:=hzs g1; have c1_2_0:=bcv g1 (w.heap.size+1+1) 0 (.bool false); have f1_2_0:=bfv g1 (w.heap.size+1+1) 0; have c1_2_1:=bcv g1 (w.heap.size+1+1) 1 (.slice none 0 0); have f1_2_1:=bfv g1 (w.heap.size+1+1) 1; have c1_2_2:=bcv g1 (w.heap.size+1+1) 2 (.slice none 0 0); have f1_2_2:=bfv g1 (w.heap.size+1+1) 2) | (go_at_call 146; refine (HU.out _ (by go_split_ands; assumption)).mono ?_; rintro e w2 ⟨v2,rfl,r2,g2⟩; have g:=g2; have z2:=r2.num; obtain ⟨A2,cap2,hA2,_⟩:=z2.open; subst hA2; have z1:=Zn.below (by first | with_reducible exact r1 | with_reducible exact r1.below (bd (br _))) g2; have hz2 : w.heap.size+2<w2.heap.size:=hzs g2; have c2_2_0:=bcv g2 (w.heap.size+1+1) 0 (.bool false); have f2_2_0:=bfv g2 (w.heap.size+1+1) 0; have c2_2_1:=bcv g2 (w.heap.size+1+1) 1 (.slice none 0 0); have f2_2_1:=bfv g2 (w.heap.size+1+1) 1; have c2_2_2:=bcv g2 (w.heap.size+1+1) 2 (.slice none 0 0); have f2_2_2:=bfv g2 (w.heap.size+1+1) 2) | (go_at_call 143; refine (HL.out _ _ _ (by first | with_reducible exact z1 | with_reducible exact z1.below (bd (br _))) (by first | with_reducible exact z2 | with_reducible exact z2.below (bd (br _)))).mono ?_; rintro e w3 ⟨v3,rfl,r3,g3⟩; have g:=g3; obtain ⟨A3,c3,A4,c4,hA3,_⟩:=r3.open; subst hA3; have hz3 : w.heap.size+2<w3.heap.size:=hzs g3; have c3_2_0:=bcv g3 (w.heap.size+1+1) 0 (.bool false); have f3_2_0:=bfv g3 (w.heap.size+1+1) 0; have c3_2_1:=bcv g3 (w.heap.size+1+1) 1 (.slice none 0 0); have f3_2_1:=bfv g3 (w.heap.size+1+1) 1; have c3_2_2:=bcv g3 (w.heap.size+1+1) 2 (.slice none 0 0); have f3_2_2:=bfv g3 (w.heap.size+1+1) 2))
 go_split_ands
 go_wp2
 refine bodyPost_ret (v:=.agg #[.bool (decide (q.num<0)),.slice A3 (wds q.num.natAbs).length c3,.slice A4 (wds q.den).length c4]) (by simp [results,Tryz.results152,go_sem, *]) rfl ?_
 exact ⟨_,rfl,r3.set3 c3_2_0 (by simp) c3_2_1 (by simp) c3_2_2 (by simp) (by simp) (by simp) (by simp) _ _ _,bel⟩
end Go.Proofs.YtbnbaokamccmjaaGreatDoor

/- garboardref03: Add, Sub. -/
namespace Go.Proofs.YtbnbaokamccmjaaGreatDoor
open Go Go.RowKit
theorem add_words {a b k : Int} {n m L : Nat} (h1 : a.natAbs≤n) (h2 : b.natAbs≤m) (hk : k=a+b) (hn : dg n≤L) (hm : dg m≤L) : (wds k.natAbs).length≤L+1:=by
 have h:=wds_mono_length (show k.natAbs≤n+m by omega)
 have h3:=wds_le_dg (n+m)
 have h4:=dg_add n m
 omega
set_option maxRecDepth 100000 in
set_option maxHeartbeats 4000000 in
theorem qAdd_same (x y : Value) (r s : Rat) (hd : r.den=s.den) (w : World) (h : Qn w x r) (g : Qn w y s) (hr : rz r≤10000000) (hs : rz s≤10000000) :
  Calls Tryz.prog 102 #[x,y] w (Ret fun v' w'=>Qn w' v' (r+s)∧Below w.heap.size w w'):=by
 obtain ⟨A,Ac,B,Bc,hX,hx1,hx2⟩:=h.open
 subst hX
 obtain ⟨b1,hb1⟩ : ∃ b,b=decide (r.num<0):=⟨_,rfl⟩
 rw [← hb1]
 obtain ⟨C,Cc,D,Dc,hY,hy1,hy2⟩:=g.open
 subst hY
 obtain ⟨b2,hb2⟩ : ∃ b,b=decide (s.num<0):=⟨_,rfl⟩
 rw [← hb2]
 have e1:=rz_words r
 have e2:=rz_words s
 have hT:=fun W hW=>zPlus_walk (.agg #[.bool b1,.slice A (wds r.num.natAbs).length Ac]) (.agg #[.bool b2,.slice C (wds s.num.natAbs).length Cc]) r.num s.num W ⟨_,by rw [← hb1],Num.below (w1:=W) hx1 hW⟩ ⟨_,by rw [← hb2],Num.below (w1:=W) hy1 hW⟩ (by omega) (by omega)
 obtain ⟨k,hk⟩ : ∃ k,k=r.num+s.num:=⟨_,rfl⟩
 have l2 : (wds k.natAbs).length≤100000000:=by
  have:=add_words (Nat.le_refl _) (Nat.le_refl _) hk (Nat.le_trans (rz_num r) hr) (Nat.le_trans (rz_num s) hs)
  omega
 have hq : r+s=mkRat k r.den:=by
  rw [Rat.add_def',hk,hd,← Int.add_mul,Rat.mkRat_mul_right (Rat.den_nz s)]
 rw [← hk] at hT
 have HL:=Lib.hid (fun W x (hW : Below w.heap.size w W) hx=>zLow_walk x _ k r.den r.den_pos W hx (hx2.below hW) (by omega) (by omega))
 rw [← hq] at HL
 have hcm : cmpN r.den s.den=0:=by unfold cmpN; split<;>(try split)<;>omega
 have hC:=fun W (hW : Below w.heap.size w W)=>rCmp_walk _ _ r.den s.den W (hx2.below hW) (hy2.below hW)
 rw [hcm] at hC
 generalize r+s=q at *
 have HT:=Lib.hid hT
 have HC:=Lib.hid hC
 clear hT hC hb1 hb2 e1 e2 l2 hk hq h g hr hs hx1 hx2 hy1 hy2 hd hcm
 go_enter Tryz.func102,Tryz.ntmps102
 go_wp2_with fail
 refine (HC.out _ bel).mono ?_
 rintro e w9 ⟨rfl,g9⟩
 have hz9 : w.heap.size+2<w9.heap.size:=hzs g9
 have hz9_0 : w.heap.size<w9.heap.size:=by omega
 have hz9_1 : w.heap.size+1<w9.heap.size:=by omega
 have B9:=bn (w:=w) bel g9
 have c9_0_0:=bcv g9 w.heap.size 0 (.bool b1)
 have f9_0_0:=bfv g9 w.heap.size 0
 have c9_0_1:=bcv g9 w.heap.size 1 (.slice A (wds r.num.natAbs).length Ac)
 have f9_0_1:=bfv g9 w.heap.size 1
 have c9_0_2:=bcv g9 w.heap.size 2 (.slice B (wds r.den).length Bc)
 have f9_0_2:=bfv g9 w.heap.size 2
 have c9_1_0:=bcv g9 (w.heap.size+1) 0 (.bool b2)
 have f9_1_0:=bfv g9 (w.heap.size+1) 0
 have c9_1_1:=bcv g9 (w.heap.size+1) 1 (.slice C (wds s.num.natAbs).length Cc)
 have f9_1_1:=bfv g9 (w.heap.size+1) 1
 have c9_1_2:=bcv g9 (w.heap.size+1) 2 (.slice D (wds s.den).length Dc)
 have f9_1_2:=bfv g9 (w.heap.size+1) 2
 have c9_2_0:=bcv g9 (w.heap.size+1+1) 0 (.bool false)
 have f9_2_0:=bfv g9 (w.heap.size+1+1) 0
 have c9_2_1:=bcv g9 (w.heap.size+1+1) 1 (.slice none 0 0)
 have f9_2_1:=bfv g9 (w.heap.size+1+1) 1
 have c9_2_2:=bcv g9 (w.heap.size+1+1) 2 (.slice none 0 0)
 have f9_2_2:=bfv g9 (w.heap.size+1+1) 2
 clear g9
 go_wp2
 go_region_held3 (fun w'=>w'.cell? ⟨w.heap.size,0,none⟩=some (.bool b1)∧w'.cell? ⟨w.heap.size,1,none⟩=some (.slice A (wds r.num.natAbs).length Ac)∧w'.cell? ⟨w.heap.size,2,none⟩=some (.slice B (wds r.den).length Bc)∧w'.cell? ⟨w.heap.size+1,0,none⟩=some (.bool b2)∧w'.cell? ⟨w.heap.size+1,1,none⟩=some (.slice C (wds s.num.natAbs).length Cc)∧w'.cell? ⟨w.heap.size+1,2,none⟩=some (.slice D (wds s.den).length Dc)∧Below w.heap.size w w')
  ((go_split_ands; refine ⟨?_, ?_, ?_, ?_, ?_, ?_, ?_⟩<;>first | with_reducible assumption | ((with_reducible refine cal ?_); with_reducible assumption) | ((with_reducible refine bc g ?_); with_reducible assumption) | ((with_reducible refine cset ?_ ?_)<;>first | with_reducible assumption | ((try simp)<;>omega)) | ((with_reducible refine zal ?_); with_reducible assumption) | ((with_reducible refine zset ?_); with_reducible assumption) | ((with_reducible refine Nat.lt_of_lt_of_le ?_ g.size); with_reducible assumption) | ((with_reducible refine ba ?_); with_reducible assumption) | ((with_reducible refine bn ?_ g); with_reducible assumption) | ((with_reducible refine bs ?_ ?_)<;>first | with_reducible assumption | ((try simp)<;>omega)) | ((with_reducible refine Bk.below ?_ g); with_reducible assumption) | ((with_reducible refine Bk.alloc ?_ _); with_reducible assumption) | ((with_reducible refine Bk.far ?_ ?_ _)<;>first | with_reducible assumption | ((try simp)<;>omega)) | ((with_reducible refine Bk.far (Bk.far (Bk.far ?_ ?_ _) ?_ _) ?_ _)<;>first | with_reducible assumption | ((try simp)<;>omega)) | ((with_reducible refine Bk.far (Bk.far (Bk.far (Bk.far ?_ ?_ _) ?_ _) ?_ _) ?_ _)<;>first | with_reducible assumption | ((try simp)<;>omega)) | (go_simp; done) | ((with_reducible refine Bk.drew ?_); exact bkk) | ((with_reducible refine bn ?_ g); exact bel) | exact bel))
  (first | (go_at_call 144; refine (HT.out _ (by go_split_ands; assumption)).mono ?_; rintro e w1 ⟨v1,rfl,r1,g1⟩; have g:=g1; have hE1:=r1.open; obtain ⟨A1,cap1,hA1,_⟩:=hE1; subst hA1; have hz1 : w.heap.size+2<w1.heap.size:=hzs g1; have c1_2_0:=bcv g1 (w.heap.size+1+1) 0 (.bool false); have f1_2_0:=bfv g1 (w.heap.size+1+1) 0; have c1_2_1:=bcv g1 (w.heap.size+1+1) 1 (.slice none 0 0); have f1_2_1:=bfv g1 (w.heap.size+1+1) 1; have c1_2_2:=bcv g1 (w.heap.size+1+1) 2 (.slice none 0 0); have f1_2_2:=bfv g1 (w.heap.size+1+1) 2) | (go_at_call 143; refine (HL.out _ _ (by go_split_ands; assumption) (by first | with_reducible exact r1 | with_reducible exact r1.below (bd (br _)))).mono ?_; rintro e w3 ⟨v3,rfl,r3,g3⟩; have g:=g3; obtain ⟨A3,c3,A4,c4,hA3,_⟩:=r3.open; subst hA3; have hz3 : w.heap.size+2<w3.heap.size:=hzs g3; have c3_2_0:=bcv g3 (w.heap.size+1+1) 0 (.bool false); have f3_2_0:=bfv g3 (w.heap.size+1+1) 0; have c3_2_1:=bcv g3 (w.heap.size+1+1) 1 (.slice none 0 0); have f3_2_1:=bfv g3 (w.heap.size+1+1) 1; have c3_2_2:=bcv g3 (w.heap.size+1+1) 2 (.slice none 0 0); have f3_2_2:=bfv g3 (w.heap.size+1+1) 2))
 go_split_ands
 go_wp2
 refine bodyPost_ret (v:=.agg #[.bool (decide (q.num<0)),.slice A3 (wds q.num.natAbs).length c3,.slice A4 (wds q.den).length c4]) (by simp [results,Tryz.results102,go_sem, *]) rfl ?_
 exact ⟨_,rfl,r3.set3 c3_2_0 (by simp) c3_2_1 (by simp) c3_2_2 (by simp) (by simp) (by simp) (by simp) _ _ _,bel⟩
set_option maxRecDepth 100000 in
set_option maxHeartbeats 4000000 in
theorem qAdd_diff (x y : Value) (r s : Rat) (hd : r.den≠s.den) (w : World) (h : Qn w x r) (g : Qn w y s) (hr : rz r≤10000000) (hs : rz s≤10000000) :
  Calls Tryz.prog 102 #[x,y] w (Ret fun v' w'=>Qn w' v' (r+s)∧Below w.heap.size w w'):=by
 obtain ⟨A,Ac,B,Bc,hX,hx1,hx2⟩:=h.open
 subst hX
 obtain ⟨b1,hb1⟩ : ∃ b,b=decide (r.num<0):=⟨_,rfl⟩
 rw [← hb1]
 obtain ⟨C,Cc,D,Dc,hY,hy1,hy2⟩:=g.open
 subst hY
 obtain ⟨b2,hb2⟩ : ∃ b,b=decide (s.num<0):=⟨_,rfl⟩
 rw [← hb2]
 have e1:=rz_words r
 have e2:=rz_words s
 have hT1:=fun W (hW : Below w.heap.size w W)=>rTimes_walk _ _ r.num.natAbs s.den W (hx1.below hW) (hy2.below hW) (by omega) (by omega)
 have hT2:=fun W (hW : Below w.heap.size w W)=>rTimes_walk _ _ s.num.natAbs r.den W (hy1.below hW) (hx2.below hW) (by omega) (by omega)
 have hT3:=fun W (hW : Below w.heap.size w W)=>rTimes_walk _ _ r.den s.den W (hx2.below hW) (hy2.below hW) (by omega) (by omega)
 have l1:=mul_words r.den s.den
 have d1:=dg_mul r.num.natAbs s.den
 have d2:=dg_mul s.num.natAbs r.den
 have d3:=rz_num r
 have d4:=rz_num s
 have d5:=rz_den r
 have d6:=rz_den s
 obtain ⟨n1,hn1⟩ : ∃ n,n=r.num.natAbs * s.den:=⟨_,rfl⟩
 obtain ⟨n2,hn2⟩ : ∃ n,n=s.num.natAbs * r.den:=⟨_,rfl⟩
 obtain ⟨m,hm⟩ : ∃ n,n=r.den * s.den:=⟨_,rfl⟩
 have i1 : zmk b1 n1=r.num * s.den:=by
  have:=zmk_self r.num
  rw [← hb1] at this
  rw [hn1,← this]
  cases b1<;>simp [zmk,Int.neg_mul,Int.natCast_mul]
 have i2 : zmk b2 n2=s.num * r.den:=by
  have:=zmk_self s.num
  rw [← hb2] at this
  rw [hn2,← this]
  cases b2<;>simp [zmk,Int.neg_mul,Int.natCast_mul]
 obtain ⟨k,hk⟩ : ∃ k,k=zmk b1 n1+zmk b2 n2:=⟨_,rfl⟩
 have hm0 : 0<m:=by rw [hm]; exact Nat.mul_pos r.den_pos s.den_pos
 have hq : r+s=mkRat k m:=by rw [Rat.add_def',hk,hm,i1,i2]
 rw [← hn1] at hT1 d1
 rw [← hn2] at hT2 d2
 rw [← hm] at hT3 l1
 have l2 : (wds k.natAbs).length≤20000001:=add_words (n:=n1) (m:=n2) (by rw [zmk_abs]; exact Nat.le_refl _) (by rw [zmk_abs]; exact Nat.le_refl _) hk (by omega) (by omega)
 have l3:=wds_le_dg n1
 have l4:=wds_le_dg n2
 have HL:=Lib.hid (fun W x u hx hu=>zLow_walk x u k m hm0 W hx hu (by omega) (by omega))
 rw [← hq] at HL
 obtain ⟨c1,hc1⟩ : ∃ c,c=(b1 && decide (0<n1)):=⟨_,rfl⟩
 obtain ⟨c2,hc2⟩ : ∃ c,c=(b2 && decide (0<n2)):=⟨_,rfl⟩
 have hM1:=fun W v q=>zMake_walk b1 v n1 W q
 have hM2:=fun W v q=>zMake_walk b2 v n2 W q
 rw [← hc1] at hM1
 rw [← hc2] at hM2
 have hP:=fun W v u (hv : Num W v n1) (hu : Num W u n2)=>zPlus_walk _ _ _ _ W (zn_of hc1 rfl hv) (zn_of hc2 rfl hu) (by rw [zmk_abs]; omega) (by rw [zmk_abs]; omega)
 rw [← hk] at hP
 have hcm : (cmpN r.den s.den == 0)=false:=beq_eq_false_iff_ne.2 (by unfold cmpN; split<;>(try split)<;>omega)
 have hC:=fun W (hW : Below w.heap.size w W)=>rCmp_walk _ _ r.den s.den W (hx2.below hW) (hy2.below hW)
 generalize cmpN r.den s.den=cm at *
 generalize r+s=q at *
 have HT1:=Lib.hid hT1
 have HT2:=Lib.hid hT2
 have HT3:=Lib.hid hT3
 have HM1:=Lib.hid hM1
 have HM2:=Lib.hid hM2
 have HP:=Lib.hid hP
 have HC:=Lib.hid hC
 clear hT1 hT2 hT3 hM1 hM2 hP hC hb1 hb2 e1 e2 l1 l2 l3 l4 d1 d2 d3 d4 d5 d6 i1 i2 hn1 hn2 hm hm0 hk hq hc1 hc2 h g hr hs hx1 hx2 hy1 hy2 hd
 go_enter Tryz.func102,Tryz.ntmps102
 go_wp2_with fail
 refine (HC.out _ bel).mono ?_
 rintro e w1 ⟨rfl,g1⟩
 have HX : Hid (Bk w1 (w.heap.size) [.bool b1,.slice A (wds r.num.natAbs).length Ac,.slice B (wds r.den).length Bc]):=Lib.hid (Bk.below bkk g1)
 have HY : Hid (Bk w1 (w.heap.size+1) [.bool b2,.slice C (wds s.num.natAbs).length Cc,.slice D (wds s.den).length Dc]):=Lib.hid (Bk.below bkk g1)
 have HR : Hid (Bk w1 (w.heap.size+1+1) [.bool false,.slice none 0 0,.slice none 0 0]):=Lib.hid (Bk.below bkk g1)
 have B1:=bn (w:=w) bel g1
 clear g1
 clear HC
 go_upto_region 3 with fail
 go_cut [5] (fun s9 wx=>∃ (p : Nat) (A5 : Option Addr) (c5 : Nat),s9=.pointer (some ⟨p,0,none⟩)∧w.heap.size+2<p∧Hid (Bk wx p [.bool c1,.slice A5 (wds n1).length c5])∧Hid (Num wx (.slice A5 (wds n1).length c5) n1)∧Below w1.heap.size w1 wx)
 case first =>
  have hzR:=HR.out.lt
  obtain ⟨x1,x2,x3, -, -, -⟩:=HX.out.c3
  obtain ⟨y1,y2,y3, -, -, -⟩:=HY.out.c3
  go_region_held3 (fun w'=>w'.cell? ⟨w.heap.size,0,none⟩=some (.bool b1)∧w'.cell? ⟨w.heap.size,1,none⟩=some (.slice A (wds r.num.natAbs).length Ac)∧w'.cell? ⟨w.heap.size+1,2,none⟩=some (.slice D (wds s.den).length Dc)∧Below w1.heap.size w1 w')
   ((refine (fun hb=>⟨bc hb x1,bc hb x2,bc hb y3,hb⟩) ?_; go_split_ands; repeat (first | with_reducible assumption | (with_reducible exact bd (br _)) | (with_reducible exact br _) | (with_reducible refine bn ?_ g) | (with_reducible refine ba ?_) | (with_reducible refine bd ?_) | (refine bs ?_ ?_; rotate_left; ((try simp)<;>omega)))))
   (first | (go_at_call 146; refine (HT1.out _ (bn B1 (by go_split_ands; assumption))).mono ?_; rintro e wx1 ⟨v1,rfl,r1,g⟩; have BX : Below w1.heap.size w1 wx1:=bn (by go_split_ands; assumption) g; have hzx:=BX.size; have q1:=r1.num; clear r1; obtain ⟨A5,c5,hA5,_⟩:=q1.open; subst hA5; (first | (with_reducible have q:=Bk.below q g) | (with_reducible have q:=((bk_new _ #[.bool false,.slice none 0 0] 82).drew).below g) | (with_reducible have q:=(bk_new _ #[.bool false,.slice none 0 0] 82).below g) | skip); (try obtain ⟨o0,o1,f0,f1⟩:=q.c2); (try have hq:=q.lt)) | (go_at_call 145; refine (HM1.out _ _ (q1.below bup)).mono ?_; rintro e wx2 ⟨rfl,g⟩; have BX : Below w1.heap.size w1 wx2:=bn (by go_split_ands; assumption) g; have hzx:=BX.size; have q2:=Num.below (Num.below q1 bup) g; (first | (with_reducible have q:=Bk.below q g) | (with_reducible have q:=((bk_new _ #[.bool false,.slice none 0 0] 82).drew).below g) | (with_reducible have q:=(bk_new _ #[.bool false,.slice none 0 0] 82).below g) | skip); (try obtain ⟨o0,o1,f0,f1⟩:=q.c2); (try have hq:=q.lt)))
  all_goals
   go_split_ands
   go_wp2_with fail
   go_meet
   first
    | exact ⟨_,_,_,rfl,by omega,Lib.hid (bk_at rfl),Lib.hid (q2.below bup),by with_reducible assumption⟩
    | exact ⟨_,_,_,rfl,by omega,Lib.hid ((q.set 0 (by simp) _).set 1 (by simp) _),Lib.hid (q2.set2 o0 (by simp) o1 (by simp) (by simp) _ _),by with_reducible assumption⟩
    | (trace_state; fail "x")
 case rest =>
  obtain ⟨p5,A5,c5,rfl,hp5,HN5,HV5,BC⟩:=hcut
  have HX2:=Lib.hid (HX.out.below BC)
  have HY2:=Lib.hid (HY.out.below BC)
  have HR:=Lib.hid (HR.out.below BC)
  have Gc : Below w.heap.size w wc:=bn B1 BC
  clear BC HX HY B1 HT1 HM1
  go_upto_region 4 with fail
  go_cut [6] (fun s9 wx=>∃ (p : Nat) (A5 : Option Addr) (c5 : Nat),s9=.pointer (some ⟨p,0,none⟩)∧w.heap.size+2<p∧Hid (Bk wx p [.bool c2,.slice A5 (wds n2).length c5])∧Hid (Num wx (.slice A5 (wds n2).length c5) n2)∧Below wc.heap.size wc wx)
  case first =>
   have hzR:=HR.out.lt
   obtain ⟨x1,x2,x3, -, -, -⟩:=HX2.out.c3
   obtain ⟨y1,y2,y3, -, -, -⟩:=HY2.out.c3
   go_region_held3 (fun w'=>w'.cell? ⟨w.heap.size+1,0,none⟩=some (.bool b2)∧w'.cell? ⟨w.heap.size+1,1,none⟩=some (.slice C (wds s.num.natAbs).length Cc)∧w'.cell? ⟨w.heap.size,2,none⟩=some (.slice B (wds r.den).length Bc)∧Below wc.heap.size wc w')
    ((refine (fun hb=>⟨bc hb y1,bc hb y2,bc hb x3,hb⟩) ?_; go_split_ands; repeat (first | with_reducible assumption | (with_reducible exact bd (br _)) | (with_reducible exact br _) | (with_reducible refine bn ?_ g) | (with_reducible refine ba ?_) | (with_reducible refine bd ?_) | (refine bs ?_ ?_; rotate_left; ((try simp)<;>omega)))))
    (first | (go_at_call 146; refine (HT2.out _ (bn Gc (by go_split_ands; assumption))).mono ?_; rintro e wx1 ⟨v1,rfl,r1,g⟩; have BX : Below wc.heap.size wc wx1:=bn (by go_split_ands; assumption) g; have hzx:=BX.size; have q1:=r1.num; clear r1; obtain ⟨A5,c5,hA5,_⟩:=q1.open; subst hA5; (first | (with_reducible have q:=Bk.below q g) | (with_reducible have q:=((bk_new _ #[.bool false,.slice none 0 0] 82).drew).below g) | (with_reducible have q:=(bk_new _ #[.bool false,.slice none 0 0] 82).below g) | skip); (try obtain ⟨o0,o1,f0,f1⟩:=q.c2); (try have hq:=q.lt)) | (go_at_call 145; refine (HM2.out _ _ (q1.below bup)).mono ?_; rintro e wx2 ⟨rfl,g⟩; have BX : Below wc.heap.size wc wx2:=bn (by go_split_ands; assumption) g; have hzx:=BX.size; have q2:=Num.below (Num.below q1 bup) g; (first | (with_reducible have q:=Bk.below q g) | (with_reducible have q:=((bk_new _ #[.bool false,.slice none 0 0] 82).drew).below g) | (with_reducible have q:=(bk_new _ #[.bool false,.slice none 0 0] 82).below g) | skip); (try obtain ⟨o0,o1,f0,f1⟩:=q.c2); (try have hq:=q.lt)))
   all_goals
    go_split_ands
    go_wp2_with fail
    go_meet
    first
     | exact ⟨_,_,_,rfl,by omega,Lib.hid (bk_at rfl),Lib.hid (q2.below bup),by with_reducible assumption⟩
     | exact ⟨_,_,_,rfl,by omega,Lib.hid ((q.set 0 (by simp) _).set 1 (by simp) _),Lib.hid (q2.set2 o0 (by simp) o1 (by simp) (by simp) _ _),by with_reducible assumption⟩
     | (trace_state; fail "x")
  case rest =>
   obtain ⟨p6,A6,c6,rfl,hp6,HN6,HV6,BD⟩:=hcut
   have HX3:=Lib.hid (HX2.out.below BD)
   have HY3:=Lib.hid (HY2.out.below BD)
   have HR3:=Lib.hid (HR.out.below BD)
   have HN5:=Lib.hid (HN5.out.below BD)
   have HV5:=Lib.hid (HV5.out.below BD)
   have Gd:=bn Gc BD
   clear BD HX2 HY2 HR Gc HT2 HM2
   have hzR:=HR3.out.lt
   obtain ⟨-, -,x3, -, -, -⟩:=HX3.out.c3
   obtain ⟨-, -,y3, -, -, -⟩:=HY3.out.c3
   obtain ⟨s0,s1, -, -⟩:=HN5.out.c2
   obtain ⟨t0,t1, -, -⟩:=HN6.out.c2
   have g:=br wc
   go_wp2
   go_region_held3 (fun w'=>w'.cell? ⟨w.heap.size,2,none⟩=some (.slice B (wds r.den).length Bc)∧w'.cell? ⟨w.heap.size+1,2,none⟩=some (.slice D (wds s.den).length Dc)∧w'.cell? ⟨p5,0,none⟩=some (.bool c1)∧w'.cell? ⟨p5,1,none⟩=some (.slice A5 (wds n1).length c5)∧w'.cell? ⟨p6,0,none⟩=some (.bool c2)∧w'.cell? ⟨p6,1,none⟩=some (.slice A6 (wds n2).length c6)∧Below w.heap.size w w')
    ((go_split_ands; refine ⟨?_, ?_, ?_, ?_, ?_, ?_, ?_⟩<;>(repeat (first | with_reducible assumption | (with_reducible exact br _) | (with_reducible refine bc g ?_) | (with_reducible refine bc (bd (br _)) ?_) | (with_reducible refine cset ?_ ?_; rotate_left; ((try simp)<;>omega)) | (with_reducible refine bn ?_ g) | (with_reducible refine bd ?_) | (refine bs ?_ ?_; rotate_left; ((try simp)<;>omega))))))
    (first | (go_at_call 144; refine (HP.out _ _ _ (HV5.out.below bup) (HV6.out.below bup)).mono ?_; rintro e w5 ⟨v1,rfl,r1,g⟩; have BX : Below wc.heap.size wc w5:=bn bup g; have hE1:=r1.open; obtain ⟨A1,cap1,hA1,_⟩:=hE1; subst hA1) | (go_at_call 146; refine (HT3.out _ (by go_split_ands; assumption)).mono ?_; rintro e w6 ⟨v2,rfl,r2,g⟩; have BX : Below wc.heap.size wc w6:=bn bup g; have z2:=r2.num; obtain ⟨A2,cap2,hA2,_⟩:=z2.open; subst hA2; have z1:=Zn.below (Zn.below r1 bup) g) | (go_at_call 143; refine (HL.out _ _ _ (z1.below bup) (z2.below bup)).mono ?_; rintro e w7 ⟨v3,rfl,r3,g⟩; have BX : Below wc.heap.size wc w7:=bn bup g; obtain ⟨A3,c3,A4,c4,hA3,_⟩:=r3.open; subst hA3; obtain ⟨o0,o1,o2,f0,f1,f2⟩:=(HR3.out.below BX).c3; have hzx:=BX.size))
   go_split_ands
   have Bf:=bn Gd BX
   go_wp2
   refine bodyPost_ret (v:=.agg #[.bool (decide (q.num<0)),.slice A3 (wds q.num.natAbs).length c3,.slice A4 (wds q.den).length c4]) (by simp [results,Tryz.results102,go_sem, *]) rfl ?_
   exact ⟨_,rfl,r3.set3 o0 (by simp) o1 (by simp) o2 (by simp) (by simp) (by simp) (by simp) _ _ _,bel⟩
end Go.Proofs.YtbnbaokamccmjaaGreatDoor

/- garboardref03: Add, Sub, split. -/
namespace Go.Proofs.YtbnbaokamccmjaaGreatDoor
open Go Go.RowKit
theorem qAdd_walk (x y : Value) (r s : Rat) (w : World) (h : Qn w x r) (g : Qn w y s) (hr : rz r≤10000000) (hs : rz s≤10000000) :
  Calls Tryz.prog 102 #[x,y] w (Ret fun v' w'=>Qn w' v' (r+s)∧Below w.heap.size w w'):=by
 by_cases hd : r.den=s.den
 ·exact qAdd_same x y r s hd w h g hr hs
 ·exact qAdd_diff x y r s hd w h g hr hs
set_option maxRecDepth 100000 in
set_option maxHeartbeats 4000000 in
theorem qSub_walk (x y : Value) (r s : Rat) (w : World) (h : Qn w x r) (g : Qn w y s) (hr : rz r≤10000000) (hs : rz s≤10000000) :
  Calls Tryz.prog 98 #[x,y] w (Ret fun v' w'=>Qn w' v' (r - s)∧Below w.heap.size w w'):=by
 obtain ⟨A,Ac,B,Bc,hX,hx1,hx2⟩:=h.open
 obtain ⟨C,Cc,D,Dc,hY,hy1,hy2⟩:=g.open
 have hN:=fun W (hW : Below w.heap.size w W)=>qNeg_walk y s W (g.below hW)
 have hA:=fun W u (hW : Below w.heap.size w W) (hu : Qn W u (-s))=>qAdd_walk x u r (-s) W (h.below hW) hu hr (by rw [rz_neg]; exact hs)
 rw [← Rat.sub_eq_add_neg] at hA
 generalize r - s=q at *
 obtain ⟨s',hs'⟩ : ∃ s',s' = -s:=⟨_,rfl⟩
 rw [← hs'] at hN hA
 clear hs' hr hs h g
 subst hX hY
 obtain ⟨b1,hb1⟩ : ∃ b,b=decide (r.num<0):=⟨_,rfl⟩
 obtain ⟨b2,hb2⟩ : ∃ b,b=decide (s.num<0):=⟨_,rfl⟩
 rw [← hb1] at hA ⊢
 rw [← hb2] at hN ⊢
 have HN:=Lib.hid hN
 have HA:=Lib.hid hA
 clear hN hA hb1 hb2 hx1 hx2 hy1 hy2
 go_enter Tryz.func98,Tryz.ntmps98
 go_wp2
 go_region_held3 (fun w'=>w'.cell? ⟨w.heap.size,0,none⟩=some (.bool b1)∧w'.cell? ⟨w.heap.size,1,none⟩=some (.slice A (wds r.num.natAbs).length Ac)∧w'.cell? ⟨w.heap.size,2,none⟩=some (.slice B (wds r.den).length Bc)∧w'.cell? ⟨w.heap.size+1,0,none⟩=some (.bool b2)∧w'.cell? ⟨w.heap.size+1,1,none⟩=some (.slice C (wds s.num.natAbs).length Cc)∧w'.cell? ⟨w.heap.size+1,2,none⟩=some (.slice D (wds s.den).length Dc)∧Below w.heap.size w w')
  ((go_split_ands; refine ⟨?_, ?_, ?_, ?_, ?_, ?_, ?_⟩<;>first | with_reducible assumption | ((with_reducible refine cal ?_); with_reducible assumption) | ((with_reducible refine bc g ?_); with_reducible assumption) | ((with_reducible refine cset ?_ ?_)<;>first | with_reducible assumption | ((try simp)<;>omega)) | ((with_reducible refine zal ?_); with_reducible assumption) | ((with_reducible refine zset ?_); with_reducible assumption) | ((with_reducible refine Nat.lt_of_lt_of_le ?_ g.size); with_reducible assumption) | ((with_reducible refine ba ?_); with_reducible assumption) | ((with_reducible refine bn ?_ g); with_reducible assumption) | ((with_reducible refine bs ?_ ?_)<;>first | with_reducible assumption | ((try simp)<;>omega)) | ((with_reducible refine Bk.below ?_ g); with_reducible assumption) | ((with_reducible refine Bk.alloc ?_ _); with_reducible assumption) | ((with_reducible refine Bk.far ?_ ?_ _)<;>first | with_reducible assumption | ((try simp)<;>omega)) | ((with_reducible refine Bk.far (Bk.far (Bk.far ?_ ?_ _) ?_ _) ?_ _)<;>first | with_reducible assumption | ((try simp)<;>omega)) | ((with_reducible refine Bk.far (Bk.far (Bk.far (Bk.far ?_ ?_ _) ?_ _) ?_ _) ?_ _)<;>first | with_reducible assumption | ((try simp)<;>omega)) | (go_simp; done) | ((with_reducible refine Bk.drew ?_); exact bkk) | ((with_reducible refine bn ?_ g); exact bel) | exact bel))
  (first | (go_at_call 71; refine (HN.out _ (by go_split_ands; assumption)).mono ?_; rintro e w1 ⟨v1,rfl,r1,g1⟩; have g:=g1; have hE:=r1.open; obtain ⟨A3,c3,A4,c4,hA3,_⟩:=hE; subst hA3; have hz1 : w.heap.size+2<w1.heap.size:=hzs g1; have c1_2_0:=bcv g1 (w.heap.size+1+1) 0 (.bool false); have f1_2_0:=bfv g1 (w.heap.size+1+1) 0; have c1_2_1:=bcv g1 (w.heap.size+1+1) 1 (.slice none 0 0); have f1_2_1:=bfv g1 (w.heap.size+1+1) 1; have c1_2_2:=bcv g1 (w.heap.size+1+1) 2 (.slice none 0 0); have f1_2_2:=bfv g1 (w.heap.size+1+1) 2) | (go_at_call 102; refine (HA.out _ _ (by go_split_ands; assumption) (by first | with_reducible exact r1 | with_reducible exact r1.below (bd (br _)))).mono ?_; rintro e w3 ⟨v3,rfl,r3,g3⟩; have g:=g3; obtain ⟨A5,c5,A6,c6,hA5,_⟩:=r3.open; subst hA5; have hz3 : w.heap.size+2<w3.heap.size:=hzs g3; have c3_2_0:=bcv g3 (w.heap.size+1+1) 0 (.bool false); have f3_2_0:=bfv g3 (w.heap.size+1+1) 0; have c3_2_1:=bcv g3 (w.heap.size+1+1) 1 (.slice none 0 0); have f3_2_1:=bfv g3 (w.heap.size+1+1) 1; have c3_2_2:=bcv g3 (w.heap.size+1+1) 2 (.slice none 0 0); have f3_2_2:=bfv g3 (w.heap.size+1+1) 2))
 go_split_ands
 go_wp2
 refine bodyPost_ret (v:=.agg #[.bool (decide (q.num<0)),.slice A5 (wds q.num.natAbs).length c5,.slice A6 (wds q.den).length c6]) (by simp [results,Tryz.results98,go_sem, *]) rfl ?_
 exact ⟨_,rfl,r3.set3 c3_2_0 (by simp) c3_2_1 (by simp) c3_2_2 (by simp) (by simp) (by simp) (by simp) _ _ _,bel⟩
def sp1 (s : ByteArray) : ByteArray:=⟨(Lib.cut s.data.toList [47]).1.toArray⟩
def sp2 (s : ByteArray) : ByteArray:=if (Lib.cut s.data.toList [47]).2.2 then ⟨(Lib.cut s.data.toList [47]).2.1.toArray⟩ else ⟨#[49]⟩
def sp3 (s : ByteArray) : Bool:=(Lib.cut s.data.toList [47]).2.2
theorem sp_yes {s : ByteArray} {k : Nat} (hk : k<s.size) (hn : (47 : UInt8) ∉ s.data.toList.take k) (hb : bt s k=47) : sp1 s=s.extract 0 k∧sp2 s=s.extract (k+1) s.size∧sp3 s=true:=by
 have hl:=toList_length s
 have hk' : k<s.data.toList.length:=by omega
 have e : s.data.toList=s.data.toList.take k++47 :: s.data.toList.drop (k+1):=by
  conv=>lhs; rw [← List.take_append_drop k s.data.toList,List.drop_eq_getElem_cons hk']
  have : s.data.toList[k]=47:=by
   unfold bt at hb
   rw [List.getD_eq_getElem?_getD,List.getElem?_eq_getElem hk'] at hb
   exact UInt8.toNat_inj.1 (by simpa using hb)
  rw [this]
 have hc:=cut_yes (s.data.toList.drop (k+1)) hn
 rw [← e] at hc
 unfold sp1 sp2 sp3
 rw [hc]
 refine ⟨ba_ext ?_,ba_ext ?_,rfl⟩
 ·rw [ext_list,List.drop_zero]
 ·rw [if_pos rfl,ext_list,List.take_of_length_le (Nat.le_of_eq hl)]
theorem sp_no {s : ByteArray} (hn : (47 : UInt8) ∉ s.data.toList) : sp1 s=s∧sp2 s=⟨#[49]⟩∧sp3 s=false:=by
 unfold sp1 sp2 sp3
 rw [cut_no hn]
 exact ⟨ba_ext (by simp),rfl,rfl⟩
theorem take_no {s : ByteArray} {k : Nat} (hk : k<s.size) (hn : (47 : UInt8) ∉ s.data.toList.take k) (hb : bt s k≠47) : (47 : UInt8) ∉ s.data.toList.take (k+1):=by
 have hl:=toList_length s
 have hk' : k<s.data.toList.length:=by omega
 rw [List.take_succ_eq_append_getElem hk',List.mem_append]
 rintro (h | h)
 ·exact hn h
 ·rw [List.mem_singleton] at h
  refine hb ?_
  unfold bt
  rw [List.getD_eq_getElem?_getD,List.getElem?_eq_getElem hk',← h]
  rfl
set_option maxHeartbeats 1000000 in
theorem split_walk (s : ByteArray) (hs : s.size≤1000000000) (w : World) :
  Calls Tryz.prog 134 #[.string s] w fun e w'=>e=.returned (.tuple #[.string (sp1 s),.string (sp2 s),.bool (sp3 s)])∧Below w.heap.size w w':=by
 go_enter Tryz.func134,Tryz.ntmps134
 go_wp2
 go_loopw [5] (fun i wr=>∃ k : Nat,k≤s.size∧Hid ((47 : UInt8) ∉ s.data.toList.take k)∧i=.int .i64 k∧Below w.heap.size w wr) (fun i _=>s.size - (intOf i).toNat)
 case atStart=>exact ⟨0,Nat.zero_le _,Lib.hid (by simp),rfl,Below.refl _ _⟩
 case round =>
  obtain ⟨k,hk,hn,rfl,hb⟩:=hrel
  by_cases hlt : k<s.size
  ·have hbk:=bt_at s k
   have i1 : (0 : Int)≤k:=by omega
   have i2 : (k : Int)<(s.size : Int):=by omega
   by_cases h47 : bt s k=47
   ·have hI : (bt s k : Int)=47:=by omega
    have HS:=Lib.hid (sp_yes hlt hn.out h47)
    obtain ⟨k',hk'⟩ : ∃ k',k'=k+1:=⟨_,rfl⟩
    rw [← hk'] at HS
    have i3 : (k : Int)+1=(k' : Int):=by omega
    have i4 : (k : Int)≤(s.size : Int):=by omega
    have i5 : (k' : Int)≤(s.size : Int):=by omega
    have i6 : (0 : Int)≤(k' : Int):=by omega
    have i7 : IntKind.i64.wrap (k' : Int)=(k' : Int):=IntWalk.i64_in _ (by omega)
    clear hk'
    go_wp2
    go_quiet (fail)
    go_wp2
    go_ret3
    exact ⟨by rw [HS.out.1,HS.out.2.1,HS.out.2.2]; rfl,below_drewN hb _⟩
   ·have hI : ((bt s k : Int) == 47)=false:=beq_eq_false_iff_ne.2 (by omega)
    have HT:=Lib.hid (take_no hlt hn.out h47)
    go_wp2
    go_roundw
    case rel=>exact ⟨k+1,by omega,HT,by simp,by first | exact hb | exact below_drewN hb _⟩
    case measure=>simp [intOf]; omega
  ·obtain rfl : k=s.size:=by omega
   have HS:=Lib.hid (sp_no (s:=s) (by have:=hn.out; rwa [List.take_of_length_le (Nat.le_of_eq (toList_length s))] at this))
   go_wp2
   go_ret3
   exact ⟨by rw [HS.out.1,HS.out.2.1,HS.out.2.2]; rfl,by first | exact hb | exact below_drewN hb _⟩
end Go.Proofs.YtbnbaokamccmjaaGreatDoor

/- garboardref03: From. -/
namespace Go.Proofs.YtbnbaokamccmjaaGreatDoor
open Go Go.RowKit
def QB (b : Bool) (q : Rat) (W w : World) (e : Ending) : Prop:=∃ z,e=.returned (.tuple #[z,.bool b])∧Qn w z q∧Below W.heap.size W w
set_option maxRecDepth 100000 in
set_option maxHeartbeats 4000000 in
theorem from_p (s p d : ByteArray) (f : Bool) (hs : s.size≤1000000000) (hp : sp1 s=p) (hd : sp2 s=d) (hf : sp3 s=f) (hb : isIntB p=false) (hz : p.size≤1000000000) (w : World) :
  Calls Tryz.prog 97 #[.string s] w fun e w'=>QB false ((0 : Int) : Rat) w w' e:=by
 have hS:=fun W=>split_walk s hs W
 rw [hp,hd,hf] at hS
 have HS:=Lib.hid hS
 clear hS hp hd hf hs
 have hZ:=fun W=>qInt_walk 0 (by omega) (by omega) W
 obtain ⟨q0,hq0⟩ : ∃ q : Rat,q=((0 : Int) : Rat):=⟨_,rfl⟩
 rw [← hq0] at hZ ⊢
 have HZ:=Lib.hid hZ
 clear hZ hq0
 have hV:=fun W=>z02_walk p hz W
 rw [hb] at hV
 have HV:=Lib.hid hV
 clear hV hb hz
 go_enter Tryz.func97,Tryz.ntmps97
 go_wp2_with fail
 refine (HS.out _).mono ?_
 rintro e w1 ⟨rfl,g1⟩
 have hz1 : w.heap.size<w1.heap.size:=hzs g1
 have B1:=bn (w:=w) bel g1
 have c1_0_0:=bcv g1 w.heap.size 0 (.bool false)
 have f1_0_0:=bfv g1 w.heap.size 0
 have c1_0_1:=bcv g1 w.heap.size 1 (.slice none 0 0)
 have f1_0_1:=bfv g1 w.heap.size 1
 have c1_0_2:=bcv g1 w.heap.size 2 (.slice none 0 0)
 have f1_0_2:=bfv g1 w.heap.size 2
 clear g1
 go_wp2_with fail
 refine (HV.out _).mono ?_
 rintro e w2 ⟨rfl,g2⟩
 have hz2 : w.heap.size<w2.heap.size:=hzs g2
 have B2:=bn (w:=w) bel g2
 have c2_0_0:=bcv g2 w.heap.size 0 (.bool false)
 have f2_0_0:=bfv g2 w.heap.size 0
 have c2_0_1:=bcv g2 w.heap.size 1 (.slice none 0 0)
 have f2_0_1:=bfv g2 w.heap.size 1
 have c2_0_2:=bcv g2 w.heap.size 2 (.slice none 0 0)
 have f2_0_2:=bfv g2 w.heap.size 2
 clear g2
 go_wp2_with fail
 refine (HZ.out _).mono ?_
 rintro e w3 ⟨v3,rfl,r3,g3⟩
 obtain ⟨X3,x3,Y3,y3,hA3,_⟩:=r3.open
 subst hA3
 have hz3 : w.heap.size<w3.heap.size:=hzs g3
 have B3:=bn (w:=w) bel g3
 have c3_0_0:=bcv g3 w.heap.size 0 (.bool false)
 have f3_0_0:=bfv g3 w.heap.size 0
 have c3_0_1:=bcv g3 w.heap.size 1 (.slice none 0 0)
 have f3_0_1:=bfv g3 w.heap.size 1
 have c3_0_2:=bcv g3 w.heap.size 2 (.slice none 0 0)
 have f3_0_2:=bfv g3 w.heap.size 2
 clear g3
 go_wp2
 refine bodyPost_ret (v:=.tuple #[.agg #[.bool (decide (q0.num<0)),.slice X3 (wds q0.num.natAbs).length x3,.slice Y3 (wds q0.den).length y3],.bool false]) (by simp [results,Tryz.results97,go_sem, *]) rfl ?_
 exact ⟨_,rfl,r3.set3 c3_0_0 (by simp) c3_0_1 (by simp) c3_0_2 (by simp) (by simp) (by simp) (by simp) _ _ _,bel⟩
set_option maxRecDepth 100000 in
set_option maxHeartbeats 4000000 in
theorem from_d (s p d : ByteArray) (f : Bool) (hs : s.size≤1000000000) (hp : sp1 s=p) (hd : sp2 s=d) (hf : sp3 s=f) (hb : isIntB p=true) (hz : p.size≤1000000000) (hn : isNat d.data.toList=false) (hy : d.size≤1000000000) (w : World) :
  Calls Tryz.prog 97 #[.string s] w fun e w'=>QB false ((0 : Int) : Rat) w w' e:=by
 have hS:=fun W=>split_walk s hs W
 rw [hp,hd,hf] at hS
 have HS:=Lib.hid hS
 clear hS hp hd hf hs
 have hZ:=fun W=>qInt_walk 0 (by omega) (by omega) W
 obtain ⟨q0,hq0⟩ : ∃ q : Rat,q=((0 : Int) : Rat):=⟨_,rfl⟩
 rw [← hq0] at hZ ⊢
 have HZ:=Lib.hid hZ
 clear hZ hq0
 have hV:=fun W=>z02_walk p hz W
 rw [hb] at hV
 have hN:=fun W=>v01_walk d (by omega) W
 rw [hn] at hN
 have HV:=Lib.hid hV
 have HN:=Lib.hid hN
 clear hV hb hz hN hn hy
 go_enter Tryz.func97,Tryz.ntmps97
 go_wp2_with fail
 refine (HS.out _).mono ?_
 rintro e w1 ⟨rfl,g1⟩
 have hz1 : w.heap.size<w1.heap.size:=hzs g1
 have B1:=bn (w:=w) bel g1
 have c1_0_0:=bcv g1 w.heap.size 0 (.bool false)
 have f1_0_0:=bfv g1 w.heap.size 0
 have c1_0_1:=bcv g1 w.heap.size 1 (.slice none 0 0)
 have f1_0_1:=bfv g1 w.heap.size 1
 have c1_0_2:=bcv g1 w.heap.size 2 (.slice none 0 0)
 have f1_0_2:=bfv g1 w.heap.size 2
 clear g1
 go_wp2_with fail
 refine (HV.out _).mono ?_
 rintro e w2 ⟨rfl,g2⟩
 have hz2 : w.heap.size<w2.heap.size:=hzs g2
 have B2:=bn (w:=w) bel g2
 have c2_0_0:=bcv g2 w.heap.size 0 (.bool false)
 have f2_0_0:=bfv g2 w.heap.size 0
 have c2_0_1:=bcv g2 w.heap.size 1 (.slice none 0 0)
 have f2_0_1:=bfv g2 w.heap.size 1
 have c2_0_2:=bcv g2 w.heap.size 2 (.slice none 0 0)
 have f2_0_2:=bfv g2 w.heap.size 2
 clear g2
 go_wp2_with fail
 refine (HN.out _).mono ?_
 rintro e w8 ⟨rfl,rfl⟩
 go_wp2_with fail
 refine (HZ.out _).mono ?_
 rintro e w3 ⟨v3,rfl,r3,g3⟩
 obtain ⟨X3,x3,Y3,y3,hA3,_⟩:=r3.open
 subst hA3
 have hz3 : w.heap.size<w3.heap.size:=hzs g3
 have B3:=bn (w:=w) bel g3
 have c3_0_0:=bcv g3 w.heap.size 0 (.bool false)
 have f3_0_0:=bfv g3 w.heap.size 0
 have c3_0_1:=bcv g3 w.heap.size 1 (.slice none 0 0)
 have f3_0_1:=bfv g3 w.heap.size 1
 have c3_0_2:=bcv g3 w.heap.size 2 (.slice none 0 0)
 have f3_0_2:=bfv g3 w.heap.size 2
 clear g3
 go_wp2
 refine bodyPost_ret (v:=.tuple #[.agg #[.bool (decide (q0.num<0)),.slice X3 (wds q0.num.natAbs).length x3,.slice Y3 (wds q0.den).length y3],.bool false]) (by simp [results,Tryz.results97,go_sem, *]) rfl ?_
 exact ⟨_,rfl,r3.set3 c3_0_0 (by simp) c3_0_1 (by simp) c3_0_2 (by simp) (by simp) (by simp) (by simp) _ _ _,bel⟩
set_option maxRecDepth 100000 in
set_option maxHeartbeats 4000000 in
theorem from_int (s : ByteArray) (hs : s.size≤1000000000) (i : Int) (m : Nat) (hi : (itx i).size≤100000000) (hm : (dec m).size≤100000000) (hp : sp1 s=itx i) (hd : sp2 s=dec m) (hf : sp3 s=false) (hm1 : m=1) (w : World) :
  Calls Tryz.prog 97 #[.string s] w fun e w'=>QB true ((i : Int) : Rat) w w' e:=by
 have hS:=fun W=>split_walk s hs W
 rw [hp,hd,hf] at hS
 have HS:=Lib.hid hS
 clear hS hp hd hf hs
 have hV:=fun W=>z02_walk (itx i) (by omega) W
 rw [isIntB_itx] at hV
 have hN:=fun W=>v01_walk (dec m) (by omega) W
 rw [show isNat (dec m).data.toList=true by rw [dec_toList]; exact isNat_decDigits m] at hN
 have hR:=fun W=>z02Read_walk i hi W
 have hM:=fun W=>rFrom_walk (dec m) hm (by rw [dec_toList]; exact digs_decDigits m) W
 rw [dec_toList,natOf_decDigits] at hM
 have HV:=Lib.hid hV
 have HN:=Lib.hid hN
 have HR:=Lib.hid hR
 have HM:=Lib.hid hM
 clear hV hN hR hM
 generalize itx i=p at *
 generalize dec m=d at *
 have HM1:=Lib.hid hm1
 clear hm1 hi hm
 go_enter Tryz.func97,Tryz.ntmps97
 go_wp2_with fail
 refine (HS.out _).mono ?_
 rintro e w1 ⟨rfl,g1⟩
 have hz1 : w.heap.size<w1.heap.size:=hzs g1
 have B1:=bn (w:=w) bel g1
 have c1_0_0:=bcv g1 w.heap.size 0 (.bool false)
 have f1_0_0:=bfv g1 w.heap.size 0
 have c1_0_1:=bcv g1 w.heap.size 1 (.slice none 0 0)
 have f1_0_1:=bfv g1 w.heap.size 1
 have c1_0_2:=bcv g1 w.heap.size 2 (.slice none 0 0)
 have f1_0_2:=bfv g1 w.heap.size 2
 clear g1
 go_wp2_with fail
 refine (HV.out _).mono ?_
 rintro e w2 ⟨rfl,g2⟩
 have hz2 : w.heap.size<w2.heap.size:=hzs g2
 have B2:=bn (w:=w) bel g2
 have c2_0_0:=bcv g2 w.heap.size 0 (.bool false)
 have f2_0_0:=bfv g2 w.heap.size 0
 have c2_0_1:=bcv g2 w.heap.size 1 (.slice none 0 0)
 have f2_0_1:=bfv g2 w.heap.size 1
 have c2_0_2:=bcv g2 w.heap.size 2 (.slice none 0 0)
 have f2_0_2:=bfv g2 w.heap.size 2
 clear g2
 go_wp2_with fail
 refine (HN.out _).mono ?_
 rintro e w8 ⟨rfl,rfl⟩
 go_wp2_with fail
 refine (HR.out _).mono ?_
 rintro e w3 ⟨v3,rfl,r3,g3⟩
 obtain ⟨A3,k3,hA3,z3⟩:=r3.open
 subst hA3
 have hz3 : w.heap.size<w3.heap.size:=hzs g3
 have B3:=bn (w:=w) bel g3
 have c3_0_0:=bcv g3 w.heap.size 0 (.bool false)
 have f3_0_0:=bfv g3 w.heap.size 0
 have c3_0_1:=bcv g3 w.heap.size 1 (.slice none 0 0)
 have f3_0_1:=bfv g3 w.heap.size 1
 have c3_0_2:=bcv g3 w.heap.size 2 (.slice none 0 0)
 have f3_0_2:=bfv g3 w.heap.size 2
 clear g3
 go_wp2_with fail
 refine (HM.out _).mono ?_
 rintro e w4 ⟨v4,rfl,r4,g4⟩
 have z4:=r4.num
 obtain ⟨A4,k4,hA4,_⟩:=z4.open
 subst hA4
 have z5:=z3.below g4
 have hz4 : w.heap.size<w4.heap.size:=hzs g4
 have B4:=bn (w:=w) bel g4
 have c4_0_0:=bcv g4 w.heap.size 0 (.bool false)
 have f4_0_0:=bfv g4 w.heap.size 0
 have c4_0_1:=bcv g4 w.heap.size 1 (.slice none 0 0)
 have f4_0_1:=bfv g4 w.heap.size 1
 have c4_0_2:=bcv g4 w.heap.size 2 (.slice none 0 0)
 have f4_0_2:=bfv g4 w.heap.size 2
 clear g4
 clear c1_0_0 c1_0_1 c1_0_2 f1_0_0 f1_0_1 f1_0_2 c2_0_0 c2_0_1 c2_0_2 f2_0_0 f2_0_1 f2_0_2 c3_0_0 c3_0_1 c3_0_2 f3_0_0 f3_0_1 f3_0_2 r3 z3 HS HV HN HR HM B1 B2 B3 r4
 go_wp2
 refine bodyPost_ret (v:=.tuple #[.agg #[.bool (decide (i<0)),.slice A3 (wds i.natAbs).length k3,.slice A4 (wds m).length k4],.bool true]) (by simp [results,Tryz.results97,go_sem, *]) rfl ?_
 refine ⟨_,rfl,⟨_,_,rfl,(z5.set3 c4_0_0 (by simp) c4_0_1 (by simp) c4_0_2 (by simp) (by simp) (by simp) (by simp) _ _ _).below (ba (br _)), ?_⟩,bel⟩
 have:=(z4.set3 c4_0_0 (by simp) c4_0_1 (by simp) c4_0_2 (by simp) (by simp) (by simp) (by simp) (.bool (decide (i<0))) (.slice A3 (wds i.natAbs).length k3) (.slice A4 (wds m).length k4)).below (ba (o:=.cells #[.bool (decide (i<0)),.slice A3 (wds i.natAbs).length k3,.slice A4 (wds m).length k4] 84) (br _))
 rw [HM1.out] at this ⊢
 exact this
end Go.Proofs.YtbnbaokamccmjaaGreatDoor

/- garboardref03: From, on the text of a fraction. -/
namespace Go.Proofs.YtbnbaokamccmjaaGreatDoor
open Go Go.RowKit
set_option maxRecDepth 100000 in
set_option maxHeartbeats 4000000 in
theorem from_le (s : ByteArray) (hs : s.size≤1000000000) (i : Int) (m : Nat) (hi : (itx i).size≤100000000) (hm : (dec m).size≤100000000) (hp : sp1 s=itx i) (hd : sp2 s=dec m) (hf : sp3 s=true) (hk : m≤1) (w : World) :
  Calls Tryz.prog 97 #[.string s] w fun e w'=>QB false ((0 : Int) : Rat) w w' e:=by
 have hS:=fun W=>split_walk s hs W
 rw [hp,hd,hf] at hS
 have HS:=Lib.hid hS
 clear hS hp hd hf hs
 have hb0:=wds_le_dg i.natAbs
 have hV:=fun W=>z02_walk (itx i) (by omega) W
 rw [isIntB_itx] at hV
 have hN:=fun W=>v01_walk (dec m) (by omega) W
 rw [show isNat (dec m).data.toList=true by rw [dec_toList]; exact isNat_decDigits m] at hN
 have hR:=fun W=>z02Read_walk i hi W
 have hM:=fun W=>rFrom_walk (dec m) hm (by rw [dec_toList]; exact digs_decDigits m) W
 rw [dec_toList,natOf_decDigits] at hM
 have HV:=Lib.hid hV
 have HN:=Lib.hid hN
 have HR:=Lib.hid hR
 have HM:=Lib.hid hM
 clear hV hN hR hM
 have hb1:=wds_le_dg m
 have hdm:=dg_def m
 have hdi : dg i.natAbs≤(itx i).size:=by
  have e : dg i.natAbs=(Lib.decDigits i.natAbs).length:=by rw [← dg_def,← toList_length,dec_toList]
  rw [e,← toList_length,itx_toList]
  by_cases h : i<0
  ·rw [itoa_neg h]; simp
  ·rw [itoa_nonneg (by omega)]; exact Nat.le_refl _
 have hl1 : (wds i.natAbs).length≤900000000:=by omega
 have hl2 : (wds m).length≤900000000:=by omega
 have hC:=fun W v u hv hu=>rCmp_walk v u m 1 W hv hu
 obtain ⟨cm,hcm⟩ : ∃ c,c=cmpN m (1 : Nat):=⟨_,rfl⟩
 rw [← hcm] at hC
 have hc1 : ¬ 0<cm:=by rw [hcm]; unfold cmpN; split<;>(try split)<;>omega
 have HC:=Lib.hid hC
 clear hC hcm
 clear hb0 hb1 hdm hdi hl1 hl2 hi hm hk
 have hZ:=fun W=>qInt_walk 0 (by omega) (by omega) W
 obtain ⟨q0,hq0⟩ : ∃ q : Rat,q=((0 : Int) : Rat):=⟨_,rfl⟩
 rw [← hq0] at hZ ⊢
 have HZ:=Lib.hid hZ
 clear hZ hq0
 generalize itx i=p at *
 generalize dec m=d at *
 go_enter Tryz.func97,Tryz.ntmps97
 go_wp2_with fail
 refine (HS.out _).mono ?_
 rintro e w1 ⟨rfl,g1⟩
 have hz1 : w.heap.size<w1.heap.size:=hzs g1
 have B1:=bn (w:=w) bel g1
 have c1_0_0:=bcv g1 w.heap.size 0 (.bool false)
 have f1_0_0:=bfv g1 w.heap.size 0
 have c1_0_1:=bcv g1 w.heap.size 1 (.slice none 0 0)
 have f1_0_1:=bfv g1 w.heap.size 1
 have c1_0_2:=bcv g1 w.heap.size 2 (.slice none 0 0)
 have f1_0_2:=bfv g1 w.heap.size 2
 clear g1
 go_wp2_with fail
 refine (HV.out _).mono ?_
 rintro e w2 ⟨rfl,g2⟩
 have hz2 : w.heap.size<w2.heap.size:=hzs g2
 have B2:=bn (w:=w) bel g2
 have c2_0_0:=bcv g2 w.heap.size 0 (.bool false)
 have f2_0_0:=bfv g2 w.heap.size 0
 have c2_0_1:=bcv g2 w.heap.size 1 (.slice none 0 0)
 have f2_0_1:=bfv g2 w.heap.size 1
 have c2_0_2:=bcv g2 w.heap.size 2 (.slice none 0 0)
 have f2_0_2:=bfv g2 w.heap.size 2
 clear g2
 go_wp2_with fail
 refine (HN.out _).mono ?_
 rintro e w8 ⟨rfl,rfl⟩
 go_wp2_with fail
 refine (HR.out _).mono ?_
 rintro e w3 ⟨v3,rfl,r3,g3⟩
 obtain ⟨A3,k3,hA3,z3⟩:=r3.open
 subst hA3
 have hz3 : w.heap.size<w3.heap.size:=hzs g3
 have B3:=bn (w:=w) bel g3
 have c3_0_0:=bcv g3 w.heap.size 0 (.bool false)
 have f3_0_0:=bfv g3 w.heap.size 0
 have c3_0_1:=bcv g3 w.heap.size 1 (.slice none 0 0)
 have f3_0_1:=bfv g3 w.heap.size 1
 have c3_0_2:=bcv g3 w.heap.size 2 (.slice none 0 0)
 have f3_0_2:=bfv g3 w.heap.size 2
 clear g3
 go_wp2_with fail
 refine (HM.out _).mono ?_
 rintro e w4 ⟨v4,rfl,r4,g4⟩
 have z4:=r4.num
 obtain ⟨A4,k4,hA4,_⟩:=z4.open
 subst hA4
 have z5:=z3.below g4
 have hz4 : w.heap.size<w4.heap.size:=hzs g4
 have B4:=bn (w:=w) bel g4
 have c4_0_0:=bcv g4 w.heap.size 0 (.bool false)
 have f4_0_0:=bfv g4 w.heap.size 0
 have c4_0_1:=bcv g4 w.heap.size 1 (.slice none 0 0)
 have f4_0_1:=bfv g4 w.heap.size 1
 have c4_0_2:=bcv g4 w.heap.size 2 (.slice none 0 0)
 have f4_0_2:=bfv g4 w.heap.size 2
 clear g4
 clear c1_0_0 c1_0_1 c1_0_2 f1_0_0 f1_0_1 f1_0_2 c2_0_0 c2_0_1 c2_0_2 f2_0_0 f2_0_1 f2_0_2 c3_0_0 c3_0_1 c3_0_2 f3_0_0 f3_0_1 f3_0_2 r3 z3 HS HV HN HR HM B1 B2 B3 r4
 obtain ⟨b1,hb1⟩ : ∃ b,b=decide (i<0):=⟨_,rfl⟩
 obtain ⟨n,hn⟩ : ∃ b,b=i.natAbs:=⟨_,rfl⟩
 have HB1:=Lib.hid hb1
 have HN1:=Lib.hid hn
 rw [← hn] at z5 ⊢
 rw [← hb1]
 clear hb1 hn
 go_wp2_with fail
 refine (rSmall_walk 1 (by omega) _).mono ?_
 rintro e w5 ⟨v5,rfl,r5,g5⟩
 have z8:=r5.num
 obtain ⟨A5,k5,hA5,_⟩:=z8.open
 subst hA5
 have HQ : Hid (Bk w5 w4.heap.size [.bool b1,.slice A3 (wds n).length k3,.slice A4 (wds m).length k4]):=Lib.hid (Bk.below bkk g5)
 replace z4:=(z4.below bup).below g5
 replace z5:=(z5.below bup).below g5
 have hz5 : w.heap.size<w5.heap.size:=hzs g5
 have B5:=bn (w:=w) bel g5
 have c5_0_0:=bcv g5 w.heap.size 0 (.bool false)
 have f5_0_0:=bfv g5 w.heap.size 0
 have c5_0_1:=bcv g5 w.heap.size 1 (.slice none 0 0)
 have f5_0_1:=bfv g5 w.heap.size 1
 have c5_0_2:=bcv g5 w.heap.size 2 (.slice none 0 0)
 have f5_0_2:=bfv g5 w.heap.size 2
 clear g5
 clear c4_0_0 c4_0_1 c4_0_2 f4_0_0 f4_0_1 f4_0_2 r5
 obtain ⟨j0,j1,j2, -, -, -⟩:=HQ.out.c3
 go_wp2_with fail
 refine (HC.out _ _ _ z4 z8).mono ?_
 rintro e w6 ⟨rfl,g6⟩
 replace HQ:=Lib.hid (HQ.out.below g6)
 replace z4:=z4.below g6
 replace z5:=z5.below g6
 replace z8:=z8.below g6
 have hz6 : w.heap.size<w6.heap.size:=hzs g6
 have B6:=bn (w:=w) bel g6
 have c6_0_0:=bcv g6 w.heap.size 0 (.bool false)
 have f6_0_0:=bfv g6 w.heap.size 0
 have c6_0_1:=bcv g6 w.heap.size 1 (.slice none 0 0)
 have f6_0_1:=bfv g6 w.heap.size 1
 have c6_0_2:=bcv g6 w.heap.size 2 (.slice none 0 0)
 have f6_0_2:=bfv g6 w.heap.size 2
 clear g6
 clear c5_0_0 c5_0_1 c5_0_2 f5_0_0 f5_0_1 f5_0_2 j0 j1 j2
 obtain ⟨j0,j1,j2, -, -, -⟩:=HQ.out.c3
 go_wp2_with fail
 refine (HZ.out _).mono ?_
 rintro e w7 ⟨v7,rfl,r7,g7⟩
 obtain ⟨X7,x7,Y7,y7,hA7,_⟩:=r7.open
 subst hA7
 have hz7 : w.heap.size<w7.heap.size:=hzs g7
 have B7:=bn (w:=w) bel g7
 have c7_0_0:=bcv g7 w.heap.size 0 (.bool false)
 have f7_0_0:=bfv g7 w.heap.size 0
 have c7_0_1:=bcv g7 w.heap.size 1 (.slice none 0 0)
 have f7_0_1:=bfv g7 w.heap.size 1
 have c7_0_2:=bcv g7 w.heap.size 2 (.slice none 0 0)
 have f7_0_2:=bfv g7 w.heap.size 2
 clear g7
 go_wp2
 refine bodyPost_ret (v:=.tuple #[.agg #[.bool (decide (q0.num<0)),.slice X7 (wds q0.num.natAbs).length x7,.slice Y7 (wds q0.den).length y7],.bool false]) (by simp [results,Tryz.results97,go_sem, *]) rfl ?_
 exact ⟨_,rfl,r7.set3 c7_0_0 (by simp) c7_0_1 (by simp) c7_0_2 (by simp) (by simp) (by simp) (by simp) _ _ _,bel⟩
set_option maxRecDepth 100000 in
set_option maxHeartbeats 4000000 in
theorem from_zero (s : ByteArray) (hs : s.size≤1000000000) (i : Int) (m : Nat) (hi : (itx i).size≤100000000) (hm : (dec m).size≤100000000) (hp : sp1 s=itx i) (hd : sp2 s=dec m) (hf : sp3 s=true) (hk : 1<m) (h0 : i=0) (w : World) :
  Calls Tryz.prog 97 #[.string s] w fun e w'=>QB false ((0 : Int) : Rat) w w' e:=by
 have hS:=fun W=>split_walk s hs W
 rw [hp,hd,hf] at hS
 have HS:=Lib.hid hS
 clear hS hp hd hf hs
 have hb0:=wds_le_dg i.natAbs
 have hV:=fun W=>z02_walk (itx i) (by omega) W
 rw [isIntB_itx] at hV
 have hN:=fun W=>v01_walk (dec m) (by omega) W
 rw [show isNat (dec m).data.toList=true by rw [dec_toList]; exact isNat_decDigits m] at hN
 have hR:=fun W=>z02Read_walk i hi W
 have hM:=fun W=>rFrom_walk (dec m) hm (by rw [dec_toList]; exact digs_decDigits m) W
 rw [dec_toList,natOf_decDigits] at hM
 have HV:=Lib.hid hV
 have HN:=Lib.hid hN
 have HR:=Lib.hid hR
 have HM:=Lib.hid hM
 clear hV hN hR hM
 have hb1:=wds_le_dg m
 have hdm:=dg_def m
 have hdi : dg i.natAbs≤(itx i).size:=by
  have e : dg i.natAbs=(Lib.decDigits i.natAbs).length:=by rw [← dg_def,← toList_length,dec_toList]
  rw [e,← toList_length,itx_toList]
  by_cases h : i<0
  ·rw [itoa_neg h]; simp
  ·rw [itoa_nonneg (by omega)]; exact Nat.le_refl _
 have hl1 : (wds i.natAbs).length≤900000000:=by omega
 have hl2 : (wds m).length≤900000000:=by omega
 have hC:=fun W v u hv hu=>rCmp_walk v u m 1 W hv hu
 obtain ⟨cm,hcm⟩ : ∃ c,c=cmpN m (1 : Nat):=⟨_,rfl⟩
 rw [← hcm] at hC
 have hc1 : 0<cm:=by rw [hcm]; unfold cmpN; split<;>(try split)<;>omega
 have HC:=Lib.hid hC
 clear hC hcm
 have hS:=fun W v (hv : Num W v i.natAbs)=>zSignum_walk (.agg #[.bool (decide (i<0)),v]) i W ⟨_,rfl,hv⟩
 obtain ⟨sg,hsg⟩ : ∃ c,c=i.sign:=⟨_,rfl⟩
 rw [← hsg] at hS
 have hs1 : (sg != 0)=false:=by rw [hsg,h0]; rfl
 have HSG:=Lib.hid hS
 clear hS hsg
 clear hb0 hb1 hdm hdi hl1 hl2 hi hm hk h0
 have hZ:=fun W=>qInt_walk 0 (by omega) (by omega) W
 obtain ⟨q0,hq0⟩ : ∃ q : Rat,q=((0 : Int) : Rat):=⟨_,rfl⟩
 rw [← hq0] at hZ ⊢
 have HZ:=Lib.hid hZ
 clear hZ hq0
 generalize itx i=p at *
 generalize dec m=d at *
 go_enter Tryz.func97,Tryz.ntmps97
 go_wp2_with fail
 refine (HS.out _).mono ?_
 rintro e w1 ⟨rfl,g1⟩
 have hz1 : w.heap.size<w1.heap.size:=hzs g1
 have B1:=bn (w:=w) bel g1
 have c1_0_0:=bcv g1 w.heap.size 0 (.bool false)
 have f1_0_0:=bfv g1 w.heap.size 0
 have c1_0_1:=bcv g1 w.heap.size 1 (.slice none 0 0)
 have f1_0_1:=bfv g1 w.heap.size 1
 have c1_0_2:=bcv g1 w.heap.size 2 (.slice none 0 0)
 have f1_0_2:=bfv g1 w.heap.size 2
 clear g1
 go_wp2_with fail
 refine (HV.out _).mono ?_
 rintro e w2 ⟨rfl,g2⟩
 have hz2 : w.heap.size<w2.heap.size:=hzs g2
 have B2:=bn (w:=w) bel g2
 have c2_0_0:=bcv g2 w.heap.size 0 (.bool false)
 have f2_0_0:=bfv g2 w.heap.size 0
 have c2_0_1:=bcv g2 w.heap.size 1 (.slice none 0 0)
 have f2_0_1:=bfv g2 w.heap.size 1
 have c2_0_2:=bcv g2 w.heap.size 2 (.slice none 0 0)
 have f2_0_2:=bfv g2 w.heap.size 2
 clear g2
 go_wp2_with fail
 refine (HN.out _).mono ?_
 rintro e w8 ⟨rfl,rfl⟩
 go_wp2_with fail
 refine (HR.out _).mono ?_
 rintro e w3 ⟨v3,rfl,r3,g3⟩
 obtain ⟨A3,k3,hA3,z3⟩:=r3.open
 subst hA3
 have hz3 : w.heap.size<w3.heap.size:=hzs g3
 have B3:=bn (w:=w) bel g3
 have c3_0_0:=bcv g3 w.heap.size 0 (.bool false)
 have f3_0_0:=bfv g3 w.heap.size 0
 have c3_0_1:=bcv g3 w.heap.size 1 (.slice none 0 0)
 have f3_0_1:=bfv g3 w.heap.size 1
 have c3_0_2:=bcv g3 w.heap.size 2 (.slice none 0 0)
 have f3_0_2:=bfv g3 w.heap.size 2
 clear g3
 go_wp2_with fail
 refine (HM.out _).mono ?_
 rintro e w4 ⟨v4,rfl,r4,g4⟩
 have z4:=r4.num
 obtain ⟨A4,k4,hA4,_⟩:=z4.open
 subst hA4
 have z5:=z3.below g4
 have hz4 : w.heap.size<w4.heap.size:=hzs g4
 have B4:=bn (w:=w) bel g4
 have c4_0_0:=bcv g4 w.heap.size 0 (.bool false)
 have f4_0_0:=bfv g4 w.heap.size 0
 have c4_0_1:=bcv g4 w.heap.size 1 (.slice none 0 0)
 have f4_0_1:=bfv g4 w.heap.size 1
 have c4_0_2:=bcv g4 w.heap.size 2 (.slice none 0 0)
 have f4_0_2:=bfv g4 w.heap.size 2
 clear g4
 clear c1_0_0 c1_0_1 c1_0_2 f1_0_0 f1_0_1 f1_0_2 c2_0_0 c2_0_1 c2_0_2 f2_0_0 f2_0_1 f2_0_2 c3_0_0 c3_0_1 c3_0_2 f3_0_0 f3_0_1 f3_0_2 r3 z3 HS HV HN HR HM B1 B2 B3 r4
 obtain ⟨b1,hb1⟩ : ∃ b,b=decide (i<0):=⟨_,rfl⟩
 obtain ⟨n,hn⟩ : ∃ b,b=i.natAbs:=⟨_,rfl⟩
 have HB1:=Lib.hid hb1
 have HN1:=Lib.hid hn
 rw [← hn] at z5 ⊢
 rw [← hb1]
 have HSG:=HSG.out
 rw [← hb1,← hn] at HSG
 have HSG:=Lib.hid HSG
 clear hb1 hn
 go_wp2_with fail
 refine (rSmall_walk 1 (by omega) _).mono ?_
 rintro e w5 ⟨v5,rfl,r5,g5⟩
 have z8:=r5.num
 obtain ⟨A5,k5,hA5,_⟩:=z8.open
 subst hA5
 have HQ : Hid (Bk w5 w4.heap.size [.bool b1,.slice A3 (wds n).length k3,.slice A4 (wds m).length k4]):=Lib.hid (Bk.below bkk g5)
 replace z4:=(z4.below bup).below g5
 replace z5:=(z5.below bup).below g5
 have hz5 : w.heap.size<w5.heap.size:=hzs g5
 have B5:=bn (w:=w) bel g5
 have c5_0_0:=bcv g5 w.heap.size 0 (.bool false)
 have f5_0_0:=bfv g5 w.heap.size 0
 have c5_0_1:=bcv g5 w.heap.size 1 (.slice none 0 0)
 have f5_0_1:=bfv g5 w.heap.size 1
 have c5_0_2:=bcv g5 w.heap.size 2 (.slice none 0 0)
 have f5_0_2:=bfv g5 w.heap.size 2
 clear g5
 clear c4_0_0 c4_0_1 c4_0_2 f4_0_0 f4_0_1 f4_0_2 r5
 obtain ⟨j0,j1,j2, -, -, -⟩:=HQ.out.c3
 go_wp2_with fail
 refine (HC.out _ _ _ z4 z8).mono ?_
 rintro e w6 ⟨rfl,g6⟩
 replace HQ:=Lib.hid (HQ.out.below g6)
 replace z4:=z4.below g6
 replace z5:=z5.below g6
 replace z8:=z8.below g6
 have hz6 : w.heap.size<w6.heap.size:=hzs g6
 have B6:=bn (w:=w) bel g6
 have c6_0_0:=bcv g6 w.heap.size 0 (.bool false)
 have f6_0_0:=bfv g6 w.heap.size 0
 have c6_0_1:=bcv g6 w.heap.size 1 (.slice none 0 0)
 have f6_0_1:=bfv g6 w.heap.size 1
 have c6_0_2:=bcv g6 w.heap.size 2 (.slice none 0 0)
 have f6_0_2:=bfv g6 w.heap.size 2
 clear g6
 clear c5_0_0 c5_0_1 c5_0_2 f5_0_0 f5_0_1 f5_0_2 j0 j1 j2
 obtain ⟨j0,j1,j2, -, -, -⟩:=HQ.out.c3
 go_wp2_with fail
 refine (HSG.out _ _ z5).mono ?_
 rintro e w7 ⟨rfl,g7⟩
 replace HQ:=Lib.hid (HQ.out.below g7)
 replace z4:=z4.below g7
 replace z5:=z5.below g7
 replace z8:=z8.below g7
 have hz7 : w.heap.size<w7.heap.size:=hzs g7
 have B7:=bn (w:=w) bel g7
 have c7_0_0:=bcv g7 w.heap.size 0 (.bool false)
 have f7_0_0:=bfv g7 w.heap.size 0
 have c7_0_1:=bcv g7 w.heap.size 1 (.slice none 0 0)
 have f7_0_1:=bfv g7 w.heap.size 1
 have c7_0_2:=bcv g7 w.heap.size 2 (.slice none 0 0)
 have f7_0_2:=bfv g7 w.heap.size 2
 clear g7
 clear c6_0_0 c6_0_1 c6_0_2 f6_0_0 f6_0_1 f6_0_2 j0 j1 j2
 obtain ⟨j0,j1,j2, -, -, -⟩:=HQ.out.c3
 go_wp2_with fail
 refine (HZ.out _).mono ?_
 rintro e w8 ⟨v8,rfl,r8,g8⟩
 obtain ⟨X8,x8,Y8,y8,hA8,_⟩:=r8.open
 subst hA8
 have hz8 : w.heap.size<w8.heap.size:=hzs g8
 have B8:=bn (w:=w) bel g8
 have c8_0_0:=bcv g8 w.heap.size 0 (.bool false)
 have f8_0_0:=bfv g8 w.heap.size 0
 have c8_0_1:=bcv g8 w.heap.size 1 (.slice none 0 0)
 have f8_0_1:=bfv g8 w.heap.size 1
 have c8_0_2:=bcv g8 w.heap.size 2 (.slice none 0 0)
 have f8_0_2:=bfv g8 w.heap.size 2
 clear g8
 go_wp2
 refine bodyPost_ret (v:=.tuple #[.agg #[.bool (decide (q0.num<0)),.slice X8 (wds q0.num.natAbs).length x8,.slice Y8 (wds q0.den).length y8],.bool false]) (by simp [results,Tryz.results97,go_sem, *]) rfl ?_
 exact ⟨_,rfl,r8.set3 c8_0_0 (by simp) c8_0_1 (by simp) c8_0_2 (by simp) (by simp) (by simp) (by simp) _ _ _,bel⟩
set_option maxRecDepth 100000 in
set_option maxHeartbeats 4000000 in
theorem from_gcd (s : ByteArray) (hs : s.size≤1000000000) (i : Int) (m : Nat) (hi : (itx i).size≤100000000) (hm : (dec m).size≤100000000) (hp : sp1 s=itx i) (hd : sp2 s=dec m) (hf : sp3 s=true) (hk : 1<m) (h0 : i≠0) (hg : Nat.gcd i.natAbs m≠1) (w : World) :
  Calls Tryz.prog 97 #[.string s] w fun e w'=>QB false ((0 : Int) : Rat) w w' e:=by
 have hS:=fun W=>split_walk s hs W
 rw [hp,hd,hf] at hS
 have HS:=Lib.hid hS
 clear hS hp hd hf hs
 have hb0:=wds_le_dg i.natAbs
 have hV:=fun W=>z02_walk (itx i) (by omega) W
 rw [isIntB_itx] at hV
 have hN:=fun W=>v01_walk (dec m) (by omega) W
 rw [show isNat (dec m).data.toList=true by rw [dec_toList]; exact isNat_decDigits m] at hN
 have hR:=fun W=>z02Read_walk i hi W
 have hM:=fun W=>rFrom_walk (dec m) hm (by rw [dec_toList]; exact digs_decDigits m) W
 rw [dec_toList,natOf_decDigits] at hM
 have HV:=Lib.hid hV
 have HN:=Lib.hid hN
 have HR:=Lib.hid hR
 have HM:=Lib.hid hM
 clear hV hN hR hM
 have hb1:=wds_le_dg m
 have hdm:=dg_def m
 have hdi : dg i.natAbs≤(itx i).size:=by
  have e : dg i.natAbs=(Lib.decDigits i.natAbs).length:=by rw [← dg_def,← toList_length,dec_toList]
  rw [e,← toList_length,itx_toList]
  by_cases h : i<0
  ·rw [itoa_neg h]; simp
  ·rw [itoa_nonneg (by omega)]; exact Nat.le_refl _
 have hl1 : (wds i.natAbs).length≤900000000:=by omega
 have hl2 : (wds m).length≤900000000:=by omega
 have hC:=fun W v u hv hu=>rCmp_walk v u m 1 W hv hu
 obtain ⟨cm,hcm⟩ : ∃ c,c=cmpN m (1 : Nat):=⟨_,rfl⟩
 rw [← hcm] at hC
 have hc1 : 0<cm:=by rw [hcm]; unfold cmpN; split<;>(try split)<;>omega
 have HC:=Lib.hid hC
 clear hC hcm
 have hS:=fun W v (hv : Num W v i.natAbs)=>zSignum_walk (.agg #[.bool (decide (i<0)),v]) i W ⟨_,rfl,hv⟩
 obtain ⟨sg,hsg⟩ : ∃ c,c=i.sign:=⟨_,rfl⟩
 rw [← hsg] at hS
 have hs1 : (sg != 0)=true:=by rw [bne_iff_ne,hsg]; intro e; exact h0 (Int.sign_eq_zero_iff_zero.1 e)
 have HSG:=Lib.hid hS
 clear hS hsg
 have hO:=fun W v u hv hu=>rCommon_walk v u i.natAbs m W hv hu hl1 hl2
 obtain ⟨gd,hgd⟩ : ∃ c,c=Nat.gcd i.natAbs m:=⟨_,rfl⟩
 rw [← hgd] at hO hg
 have hgp : 0<gd:=by rw [hgd]; exact Nat.gcd_pos_of_pos_right _ (by omega)
 have hC2:=fun W v u hv hu=>rCmp_walk v u gd 1 W hv hu
 obtain ⟨cn,hcn⟩ : ∃ c,c=cmpN gd (1 : Nat):=⟨_,rfl⟩
 rw [← hcn] at hC2
 have hc2 : (cn == 0)=false:=by rw [beq_eq_false_iff_ne,hcn]; unfold cmpN; split<;>(try split)<;>omega
 have HO:=Lib.hid hO
 have HC2:=Lib.hid hC2
 clear hO hC2 hcn hgd hgp
 clear hb0 hb1 hdm hdi hl1 hl2 hi hm hk h0 hg
 have hZ:=fun W=>qInt_walk 0 (by omega) (by omega) W
 obtain ⟨q0,hq0⟩ : ∃ q : Rat,q=((0 : Int) : Rat):=⟨_,rfl⟩
 rw [← hq0] at hZ ⊢
 have HZ:=Lib.hid hZ
 clear hZ hq0
 generalize itx i=p at *
 generalize dec m=d at *
 go_enter Tryz.func97,Tryz.ntmps97
 go_wp2_with fail
 refine (HS.out _).mono ?_
 rintro e w1 ⟨rfl,g1⟩
 have hz1 : w.heap.size<w1.heap.size:=hzs g1
 have B1:=bn (w:=w) bel g1
 have c1_0_0:=bcv g1 w.heap.size 0 (.bool false)
 have f1_0_0:=bfv g1 w.heap.size 0
 have c1_0_1:=bcv g1 w.heap.size 1 (.slice none 0 0)
 have f1_0_1:=bfv g1 w.heap.size 1
 have c1_0_2:=bcv g1 w.heap.size 2 (.slice none 0 0)
 have f1_0_2:=bfv g1 w.heap.size 2
 clear g1
 go_wp2_with fail
 refine (HV.out _).mono ?_
 rintro e w2 ⟨rfl,g2⟩
 have hz2 : w.heap.size<w2.heap.size:=hzs g2
 have B2:=bn (w:=w) bel g2
 have c2_0_0:=bcv g2 w.heap.size 0 (.bool false)
 have f2_0_0:=bfv g2 w.heap.size 0
 have c2_0_1:=bcv g2 w.heap.size 1 (.slice none 0 0)
 have f2_0_1:=bfv g2 w.heap.size 1
 have c2_0_2:=bcv g2 w.heap.size 2 (.slice none 0 0)
 have f2_0_2:=bfv g2 w.heap.size 2
 clear g2
 go_wp2_with fail
 refine (HN.out _).mono ?_
 rintro e w8 ⟨rfl,rfl⟩
 go_wp2_with fail
 refine (HR.out _).mono ?_
 rintro e w3 ⟨v3,rfl,r3,g3⟩
 obtain ⟨A3,k3,hA3,z3⟩:=r3.open
 subst hA3
 have hz3 : w.heap.size<w3.heap.size:=hzs g3
 have B3:=bn (w:=w) bel g3
 have c3_0_0:=bcv g3 w.heap.size 0 (.bool false)
 have f3_0_0:=bfv g3 w.heap.size 0
 have c3_0_1:=bcv g3 w.heap.size 1 (.slice none 0 0)
 have f3_0_1:=bfv g3 w.heap.size 1
 have c3_0_2:=bcv g3 w.heap.size 2 (.slice none 0 0)
 have f3_0_2:=bfv g3 w.heap.size 2
 clear g3
 go_wp2_with fail
 refine (HM.out _).mono ?_
 rintro e w4 ⟨v4,rfl,r4,g4⟩
 have z4:=r4.num
 obtain ⟨A4,k4,hA4,_⟩:=z4.open
 subst hA4
 have z5:=z3.below g4
 have hz4 : w.heap.size<w4.heap.size:=hzs g4
 have B4:=bn (w:=w) bel g4
 have c4_0_0:=bcv g4 w.heap.size 0 (.bool false)
 have f4_0_0:=bfv g4 w.heap.size 0
 have c4_0_1:=bcv g4 w.heap.size 1 (.slice none 0 0)
 have f4_0_1:=bfv g4 w.heap.size 1
 have c4_0_2:=bcv g4 w.heap.size 2 (.slice none 0 0)
 have f4_0_2:=bfv g4 w.heap.size 2
 clear g4
 clear c1_0_0 c1_0_1 c1_0_2 f1_0_0 f1_0_1 f1_0_2 c2_0_0 c2_0_1 c2_0_2 f2_0_0 f2_0_1 f2_0_2 c3_0_0 c3_0_1 c3_0_2 f3_0_0 f3_0_1 f3_0_2 r3 z3 HS HV HN HR HM B1 B2 B3 r4
 obtain ⟨b1,hb1⟩ : ∃ b,b=decide (i<0):=⟨_,rfl⟩
 obtain ⟨n,hn⟩ : ∃ b,b=i.natAbs:=⟨_,rfl⟩
 have HB1:=Lib.hid hb1
 have HN1:=Lib.hid hn
 rw [← hn] at z5 ⊢
 rw [← hb1]
 have HSG:=HSG.out
 rw [← hb1,← hn] at HSG
 have HSG:=Lib.hid HSG
 have HO:=HO.out
 rw [← hn] at HO
 have HO:=Lib.hid HO
 clear hb1 hn
 go_wp2_with fail
 refine (rSmall_walk 1 (by omega) _).mono ?_
 rintro e w5 ⟨v5,rfl,r5,g5⟩
 have z8:=r5.num
 obtain ⟨A5,k5,hA5,_⟩:=z8.open
 subst hA5
 have HQ : Hid (Bk w5 w4.heap.size [.bool b1,.slice A3 (wds n).length k3,.slice A4 (wds m).length k4]):=Lib.hid (Bk.below bkk g5)
 replace z4:=(z4.below bup).below g5
 replace z5:=(z5.below bup).below g5
 have hz5 : w.heap.size<w5.heap.size:=hzs g5
 have B5:=bn (w:=w) bel g5
 have c5_0_0:=bcv g5 w.heap.size 0 (.bool false)
 have f5_0_0:=bfv g5 w.heap.size 0
 have c5_0_1:=bcv g5 w.heap.size 1 (.slice none 0 0)
 have f5_0_1:=bfv g5 w.heap.size 1
 have c5_0_2:=bcv g5 w.heap.size 2 (.slice none 0 0)
 have f5_0_2:=bfv g5 w.heap.size 2
 clear g5
 clear c4_0_0 c4_0_1 c4_0_2 f4_0_0 f4_0_1 f4_0_2 r5
 obtain ⟨j0,j1,j2, -, -, -⟩:=HQ.out.c3
 go_wp2_with fail
 refine (HC.out _ _ _ z4 z8).mono ?_
 rintro e w6 ⟨rfl,g6⟩
 replace HQ:=Lib.hid (HQ.out.below g6)
 replace z4:=z4.below g6
 replace z5:=z5.below g6
 replace z8:=z8.below g6
 have hz6 : w.heap.size<w6.heap.size:=hzs g6
 have B6:=bn (w:=w) bel g6
 have c6_0_0:=bcv g6 w.heap.size 0 (.bool false)
 have f6_0_0:=bfv g6 w.heap.size 0
 have c6_0_1:=bcv g6 w.heap.size 1 (.slice none 0 0)
 have f6_0_1:=bfv g6 w.heap.size 1
 have c6_0_2:=bcv g6 w.heap.size 2 (.slice none 0 0)
 have f6_0_2:=bfv g6 w.heap.size 2
 clear g6
 clear c5_0_0 c5_0_1 c5_0_2 f5_0_0 f5_0_1 f5_0_2 j0 j1 j2
 obtain ⟨j0,j1,j2, -, -, -⟩:=HQ.out.c3
 go_wp2_with fail
 refine (HSG.out _ _ z5).mono ?_
 rintro e w7 ⟨rfl,g7⟩
 replace HQ:=Lib.hid (HQ.out.below g7)
 replace z4:=z4.below g7
 replace z5:=z5.below g7
 replace z8:=z8.below g7
 have hz7 : w.heap.size<w7.heap.size:=hzs g7
 have B7:=bn (w:=w) bel g7
 have c7_0_0:=bcv g7 w.heap.size 0 (.bool false)
 have f7_0_0:=bfv g7 w.heap.size 0
 have c7_0_1:=bcv g7 w.heap.size 1 (.slice none 0 0)
 have f7_0_1:=bfv g7 w.heap.size 1
 have c7_0_2:=bcv g7 w.heap.size 2 (.slice none 0 0)
 have f7_0_2:=bfv g7 w.heap.size 2
 clear g7
 clear c6_0_0 c6_0_1 c6_0_2 f6_0_0 f6_0_1 f6_0_2 j0 j1 j2
 obtain ⟨j0,j1,j2, -, -, -⟩:=HQ.out.c3
 go_wp2_with fail
 refine (HO.out _ _ _ z5 z4).mono ?_
 rintro e w8 ⟨v8,rfl,z9,g8⟩
 obtain ⟨A8,k8,hA8,_⟩:=z9.open
 subst hA8
 replace HQ:=Lib.hid (HQ.out.below g8)
 replace z4:=z4.below g8
 replace z5:=z5.below g8
 replace z8:=z8.below g8
 have hz8 : w.heap.size<w8.heap.size:=hzs g8
 have B8:=bn (w:=w) bel g8
 have c8_0_0:=bcv g8 w.heap.size 0 (.bool false)
 have f8_0_0:=bfv g8 w.heap.size 0
 have c8_0_1:=bcv g8 w.heap.size 1 (.slice none 0 0)
 have f8_0_1:=bfv g8 w.heap.size 1
 have c8_0_2:=bcv g8 w.heap.size 2 (.slice none 0 0)
 have f8_0_2:=bfv g8 w.heap.size 2
 clear g8
 clear c7_0_0 c7_0_1 c7_0_2 f7_0_0 f7_0_1 f7_0_2 j0 j1 j2
 obtain ⟨j0,j1,j2, -, -, -⟩:=HQ.out.c3
 go_wp2_with fail
 refine (HC2.out _ _ _ z9 z8).mono ?_
 rintro e w9 ⟨rfl,g9⟩
 replace HQ:=Lib.hid (HQ.out.below g9)
 replace z4:=z4.below g9
 replace z5:=z5.below g9
 have hz9 : w.heap.size<w9.heap.size:=hzs g9
 have B9:=bn (w:=w) bel g9
 have c9_0_0:=bcv g9 w.heap.size 0 (.bool false)
 have f9_0_0:=bfv g9 w.heap.size 0
 have c9_0_1:=bcv g9 w.heap.size 1 (.slice none 0 0)
 have f9_0_1:=bfv g9 w.heap.size 1
 have c9_0_2:=bcv g9 w.heap.size 2 (.slice none 0 0)
 have f9_0_2:=bfv g9 w.heap.size 2
 clear g9
 clear c8_0_0 c8_0_1 c8_0_2 f8_0_0 f8_0_1 f8_0_2 j0 j1 j2
 obtain ⟨j0,j1,j2, -, -, -⟩:=HQ.out.c3
 go_wp2_with fail
 refine (HZ.out _).mono ?_
 rintro e w10 ⟨v10,rfl,r10,g10⟩
 obtain ⟨X10,x10,Y10,y10,hA10,_⟩:=r10.open
 subst hA10
 have hz10 : w.heap.size<w10.heap.size:=hzs g10
 have B10:=bn (w:=w) bel g10
 have c10_0_0:=bcv g10 w.heap.size 0 (.bool false)
 have f10_0_0:=bfv g10 w.heap.size 0
 have c10_0_1:=bcv g10 w.heap.size 1 (.slice none 0 0)
 have f10_0_1:=bfv g10 w.heap.size 1
 have c10_0_2:=bcv g10 w.heap.size 2 (.slice none 0 0)
 have f10_0_2:=bfv g10 w.heap.size 2
 clear g10
 go_wp2
 refine bodyPost_ret (v:=.tuple #[.agg #[.bool (decide (q0.num<0)),.slice X10 (wds q0.num.natAbs).length x10,.slice Y10 (wds q0.den).length y10],.bool false]) (by simp [results,Tryz.results97,go_sem, *]) rfl ?_
 exact ⟨_,rfl,r10.set3 c10_0_0 (by simp) c10_0_1 (by simp) c10_0_2 (by simp) (by simp) (by simp) (by simp) _ _ _,bel⟩
set_option maxRecDepth 100000 in
set_option maxHeartbeats 4000000 in
theorem from_good (s : ByteArray) (hs : s.size≤1000000000) (i : Int) (m : Nat) (hi : (itx i).size≤100000000) (hm : (dec m).size≤100000000) (hp : sp1 s=itx i) (hd : sp2 s=dec m) (hf : sp3 s=true) (hk : 1<m) (h0 : i≠0) (hg : Nat.gcd i.natAbs m=1) (q : Rat) (hq1 : q.num=i) (hq2 : q.den=m) (w : World) :
  Calls Tryz.prog 97 #[.string s] w fun e w'=>QB true q w w' e:=by
 have hS:=fun W=>split_walk s hs W
 rw [hp,hd,hf] at hS
 have HS:=Lib.hid hS
 clear hS hp hd hf hs
 have hb0:=wds_le_dg i.natAbs
 have hV:=fun W=>z02_walk (itx i) (by omega) W
 rw [isIntB_itx] at hV
 have hN:=fun W=>v01_walk (dec m) (by omega) W
 rw [show isNat (dec m).data.toList=true by rw [dec_toList]; exact isNat_decDigits m] at hN
 have hR:=fun W=>z02Read_walk i hi W
 have hM:=fun W=>rFrom_walk (dec m) hm (by rw [dec_toList]; exact digs_decDigits m) W
 rw [dec_toList,natOf_decDigits] at hM
 have HV:=Lib.hid hV
 have HN:=Lib.hid hN
 have HR:=Lib.hid hR
 have HM:=Lib.hid hM
 clear hV hN hR hM
 have hb1:=wds_le_dg m
 have hdm:=dg_def m
 have hdi : dg i.natAbs≤(itx i).size:=by
  have e : dg i.natAbs=(Lib.decDigits i.natAbs).length:=by rw [← dg_def,← toList_length,dec_toList]
  rw [e,← toList_length,itx_toList]
  by_cases h : i<0
  ·rw [itoa_neg h]; simp
  ·rw [itoa_nonneg (by omega)]; exact Nat.le_refl _
 have hl1 : (wds i.natAbs).length≤900000000:=by omega
 have hl2 : (wds m).length≤900000000:=by omega
 have hC:=fun W v u hv hu=>rCmp_walk v u m 1 W hv hu
 obtain ⟨cm,hcm⟩ : ∃ c,c=cmpN m (1 : Nat):=⟨_,rfl⟩
 rw [← hcm] at hC
 have hc1 : 0<cm:=by rw [hcm]; unfold cmpN; split<;>(try split)<;>omega
 have HC:=Lib.hid hC
 clear hC hcm
 have hS:=fun W v (hv : Num W v i.natAbs)=>zSignum_walk (.agg #[.bool (decide (i<0)),v]) i W ⟨_,rfl,hv⟩
 obtain ⟨sg,hsg⟩ : ∃ c,c=i.sign:=⟨_,rfl⟩
 rw [← hsg] at hS
 have hs1 : (sg != 0)=true:=by rw [bne_iff_ne,hsg]; intro e; exact h0 (Int.sign_eq_zero_iff_zero.1 e)
 have HSG:=Lib.hid hS
 clear hS hsg
 have hO:=fun W v u hv hu=>rCommon_walk v u i.natAbs m W hv hu hl1 hl2
 obtain ⟨gd,hgd⟩ : ∃ c,c=Nat.gcd i.natAbs m:=⟨_,rfl⟩
 rw [← hgd] at hO hg
 have hgp : 0<gd:=by rw [hgd]; exact Nat.gcd_pos_of_pos_right _ (by omega)
 have hC2:=fun W v u hv hu=>rCmp_walk v u gd 1 W hv hu
 obtain ⟨cn,hcn⟩ : ∃ c,c=cmpN gd (1 : Nat):=⟨_,rfl⟩
 rw [← hcn] at hC2
 have hc2 : (cn == 0)=true:=by rw [beq_iff_eq,hcn]; unfold cmpN; split<;>(try split)<;>omega
 have HO:=Lib.hid hO
 have HC2:=Lib.hid hC2
 clear hO hC2 hcn hgd hgp
 have HQ1:=Lib.hid hq1
 have HQ2:=Lib.hid hq2
 clear hq1 hq2
 clear hb0 hb1 hdm hdi hl1 hl2 hi hm hk h0 hg
 generalize itx i=p at *
 generalize dec m=d at *
 go_enter Tryz.func97,Tryz.ntmps97
 go_wp2_with fail
 refine (HS.out _).mono ?_
 rintro e w1 ⟨rfl,g1⟩
 have hz1 : w.heap.size<w1.heap.size:=hzs g1
 have B1:=bn (w:=w) bel g1
 have c1_0_0:=bcv g1 w.heap.size 0 (.bool false)
 have f1_0_0:=bfv g1 w.heap.size 0
 have c1_0_1:=bcv g1 w.heap.size 1 (.slice none 0 0)
 have f1_0_1:=bfv g1 w.heap.size 1
 have c1_0_2:=bcv g1 w.heap.size 2 (.slice none 0 0)
 have f1_0_2:=bfv g1 w.heap.size 2
 clear g1
 go_wp2_with fail
 refine (HV.out _).mono ?_
 rintro e w2 ⟨rfl,g2⟩
 have hz2 : w.heap.size<w2.heap.size:=hzs g2
 have B2:=bn (w:=w) bel g2
 have c2_0_0:=bcv g2 w.heap.size 0 (.bool false)
 have f2_0_0:=bfv g2 w.heap.size 0
 have c2_0_1:=bcv g2 w.heap.size 1 (.slice none 0 0)
 have f2_0_1:=bfv g2 w.heap.size 1
 have c2_0_2:=bcv g2 w.heap.size 2 (.slice none 0 0)
 have f2_0_2:=bfv g2 w.heap.size 2
 clear g2
 go_wp2_with fail
 refine (HN.out _).mono ?_
 rintro e w8 ⟨rfl,rfl⟩
 go_wp2_with fail
 refine (HR.out _).mono ?_
 rintro e w3 ⟨v3,rfl,r3,g3⟩
 obtain ⟨A3,k3,hA3,z3⟩:=r3.open
 subst hA3
 have hz3 : w.heap.size<w3.heap.size:=hzs g3
 have B3:=bn (w:=w) bel g3
 have c3_0_0:=bcv g3 w.heap.size 0 (.bool false)
 have f3_0_0:=bfv g3 w.heap.size 0
 have c3_0_1:=bcv g3 w.heap.size 1 (.slice none 0 0)
 have f3_0_1:=bfv g3 w.heap.size 1
 have c3_0_2:=bcv g3 w.heap.size 2 (.slice none 0 0)
 have f3_0_2:=bfv g3 w.heap.size 2
 clear g3
 go_wp2_with fail
 refine (HM.out _).mono ?_
 rintro e w4 ⟨v4,rfl,r4,g4⟩
 have z4:=r4.num
 obtain ⟨A4,k4,hA4,_⟩:=z4.open
 subst hA4
 have z5:=z3.below g4
 have hz4 : w.heap.size<w4.heap.size:=hzs g4
 have B4:=bn (w:=w) bel g4
 have c4_0_0:=bcv g4 w.heap.size 0 (.bool false)
 have f4_0_0:=bfv g4 w.heap.size 0
 have c4_0_1:=bcv g4 w.heap.size 1 (.slice none 0 0)
 have f4_0_1:=bfv g4 w.heap.size 1
 have c4_0_2:=bcv g4 w.heap.size 2 (.slice none 0 0)
 have f4_0_2:=bfv g4 w.heap.size 2
 clear g4
 clear c1_0_0 c1_0_1 c1_0_2 f1_0_0 f1_0_1 f1_0_2 c2_0_0 c2_0_1 c2_0_2 f2_0_0 f2_0_1 f2_0_2 c3_0_0 c3_0_1 c3_0_2 f3_0_0 f3_0_1 f3_0_2 r3 z3 HS HV HN HR HM B1 B2 B3 r4
 obtain ⟨b1,hb1⟩ : ∃ b,b=decide (i<0):=⟨_,rfl⟩
 obtain ⟨n,hn⟩ : ∃ b,b=i.natAbs:=⟨_,rfl⟩
 have HB1:=Lib.hid hb1
 have HN1:=Lib.hid hn
 rw [← hn] at z5 ⊢
 rw [← hb1]
 have HSG:=HSG.out
 rw [← hb1,← hn] at HSG
 have HSG:=Lib.hid HSG
 have HO:=HO.out
 rw [← hn] at HO
 have HO:=Lib.hid HO
 clear hb1 hn
 go_wp2_with fail
 refine (rSmall_walk 1 (by omega) _).mono ?_
 rintro e w5 ⟨v5,rfl,r5,g5⟩
 have z8:=r5.num
 obtain ⟨A5,k5,hA5,_⟩:=z8.open
 subst hA5
 have HQ : Hid (Bk w5 w4.heap.size [.bool b1,.slice A3 (wds n).length k3,.slice A4 (wds m).length k4]):=Lib.hid (Bk.below bkk g5)
 replace z4:=(z4.below bup).below g5
 replace z5:=(z5.below bup).below g5
 have hz5 : w.heap.size<w5.heap.size:=hzs g5
 have B5:=bn (w:=w) bel g5
 have c5_0_0:=bcv g5 w.heap.size 0 (.bool false)
 have f5_0_0:=bfv g5 w.heap.size 0
 have c5_0_1:=bcv g5 w.heap.size 1 (.slice none 0 0)
 have f5_0_1:=bfv g5 w.heap.size 1
 have c5_0_2:=bcv g5 w.heap.size 2 (.slice none 0 0)
 have f5_0_2:=bfv g5 w.heap.size 2
 clear g5
 clear c4_0_0 c4_0_1 c4_0_2 f4_0_0 f4_0_1 f4_0_2 r5
 obtain ⟨j0,j1,j2, -, -, -⟩:=HQ.out.c3
 go_wp2_with fail
 refine (HC.out _ _ _ z4 z8).mono ?_
 rintro e w6 ⟨rfl,g6⟩
 replace HQ:=Lib.hid (HQ.out.below g6)
 replace z4:=z4.below g6
 replace z5:=z5.below g6
 replace z8:=z8.below g6
 have hz6 : w.heap.size<w6.heap.size:=hzs g6
 have B6:=bn (w:=w) bel g6
 have c6_0_0:=bcv g6 w.heap.size 0 (.bool false)
 have f6_0_0:=bfv g6 w.heap.size 0
 have c6_0_1:=bcv g6 w.heap.size 1 (.slice none 0 0)
 have f6_0_1:=bfv g6 w.heap.size 1
 have c6_0_2:=bcv g6 w.heap.size 2 (.slice none 0 0)
 have f6_0_2:=bfv g6 w.heap.size 2
 clear g6
 clear c5_0_0 c5_0_1 c5_0_2 f5_0_0 f5_0_1 f5_0_2 j0 j1 j2
 obtain ⟨j0,j1,j2, -, -, -⟩:=HQ.out.c3
 go_wp2_with fail
 refine (HSG.out _ _ z5).mono ?_
 rintro e w7 ⟨rfl,g7⟩
 replace HQ:=Lib.hid (HQ.out.below g7)
 replace z4:=z4.below g7
 replace z5:=z5.below g7
 replace z8:=z8.below g7
 have hz7 : w.heap.size<w7.heap.size:=hzs g7
 have B7:=bn (w:=w) bel g7
 have c7_0_0:=bcv g7 w.heap.size 0 (.bool false)
 have f7_0_0:=bfv g7 w.heap.size 0
 have c7_0_1:=bcv g7 w.heap.size 1 (.slice none 0 0)
 have f7_0_1:=bfv g7 w.heap.size 1
 have c7_0_2:=bcv g7 w.heap.size 2 (.slice none 0 0)
 have f7_0_2:=bfv g7 w.heap.size 2
 clear g7
 clear c6_0_0 c6_0_1 c6_0_2 f6_0_0 f6_0_1 f6_0_2 j0 j1 j2
 obtain ⟨j0,j1,j2, -, -, -⟩:=HQ.out.c3
 go_wp2_with fail
 refine (HO.out _ _ _ z5 z4).mono ?_
 rintro e w8 ⟨v8,rfl,z9,g8⟩
 obtain ⟨A8,k8,hA8,_⟩:=z9.open
 subst hA8
 replace HQ:=Lib.hid (HQ.out.below g8)
 replace z4:=z4.below g8
 replace z5:=z5.below g8
 replace z8:=z8.below g8
 have hz8 : w.heap.size<w8.heap.size:=hzs g8
 have B8:=bn (w:=w) bel g8
 have c8_0_0:=bcv g8 w.heap.size 0 (.bool false)
 have f8_0_0:=bfv g8 w.heap.size 0
 have c8_0_1:=bcv g8 w.heap.size 1 (.slice none 0 0)
 have f8_0_1:=bfv g8 w.heap.size 1
 have c8_0_2:=bcv g8 w.heap.size 2 (.slice none 0 0)
 have f8_0_2:=bfv g8 w.heap.size 2
 clear g8
 clear c7_0_0 c7_0_1 c7_0_2 f7_0_0 f7_0_1 f7_0_2 j0 j1 j2
 obtain ⟨j0,j1,j2, -, -, -⟩:=HQ.out.c3
 go_wp2_with fail
 refine (HC2.out _ _ _ z9 z8).mono ?_
 rintro e w9 ⟨rfl,g9⟩
 replace HQ:=Lib.hid (HQ.out.below g9)
 replace z4:=z4.below g9
 replace z5:=z5.below g9
 have hz9 : w.heap.size<w9.heap.size:=hzs g9
 have B9:=bn (w:=w) bel g9
 have c9_0_0:=bcv g9 w.heap.size 0 (.bool false)
 have f9_0_0:=bfv g9 w.heap.size 0
 have c9_0_1:=bcv g9 w.heap.size 1 (.slice none 0 0)
 have f9_0_1:=bfv g9 w.heap.size 1
 have c9_0_2:=bcv g9 w.heap.size 2 (.slice none 0 0)
 have f9_0_2:=bfv g9 w.heap.size 2
 clear g9
 clear c8_0_0 c8_0_1 c8_0_2 f8_0_0 f8_0_1 f8_0_2 j0 j1 j2
 obtain ⟨j0,j1,j2, -, -, -⟩:=HQ.out.c3
 go_wp2
 refine bodyPost_ret (v:=.tuple #[.agg #[.bool b1,.slice A3 (wds n).length k3,.slice A4 (wds m).length k4],.bool true]) (by simp [results,Tryz.results97,go_sem, *]) rfl ?_
 refine ⟨_,rfl,⟨_,_,by rw [HB1.out,HQ1.out], ?_, ?_⟩,bel⟩
 ·rw [HQ1.out,← HN1.out]
  exact z5.set3 c9_0_0 (by simp) c9_0_1 (by simp) c9_0_2 (by simp) (by simp) (by simp) (by simp) _ _ _
 ·rw [HQ2.out]
  exact z4.set3 c9_0_0 (by simp) c9_0_1 (by simp) c9_0_2 (by simp) (by simp) (by simp) (by simp) _ _ _
end Go.Proofs.YtbnbaokamccmjaaGreatDoor

/- garboardref03: From, on every text. -/
namespace Go.Proofs.YtbnbaokamccmjaaGreatDoor
open Go Go.RowKit
theorem sp_size (s : ByteArray) : (sp1 s).size≤s.size∧(sp2 s).size≤s.size+1:=by
 have h1 : (sp1 s).size=(Lib.cut s.data.toList [47]).1.length:=by rw [← toList_length]; simp [sp1]
 rw [h1]
 have hl:=toList_length s
 rcases cut_cases s.data.toList with ⟨_,hc⟩ | ⟨p,r,_,he,hc⟩
 ·unfold sp2
  rw [hc]
  refine ⟨Nat.le_of_eq hl, ?_⟩
  show 1≤s.size+1
  omega
 ·have h2 : (sp2 s).size=r.length:=by rw [← toList_length]; simp [sp2,hc]
  rw [h2,hc]
  rw [he] at hl
  simp at hl
  exact ⟨by simp; omega,by omega⟩
theorem dec_one' : (⟨#[49]⟩ : ByteArray)=dec 1:=ba_ext (by rw [dec_toList,decDigits_small (by omega)]; rfl)
theorem rtx_size2 (q : Rat) : (itx q.num).size≤rz q+1∧(dec q.den).size≤rz q:=by
 refine ⟨?_,by rw [dg_def]; exact rz_den q⟩
 have h:=rz_num q
 have e : dg q.num.natAbs=(Lib.decDigits q.num.natAbs).length:=by rw [← dg_def,← toList_length,dec_toList]
 rw [← toList_length,itx_toList]
 by_cases h0 : q.num<0
 ·rw [itoa_neg h0,List.length_cons]; omega
 ·rw [itoa_nonneg (by omega)]; omega
theorem qFrom_good (q : Rat) (hz : rz q≤10000000) (w : World) :
  Calls Tryz.prog 97 #[.string (rtx q)] w fun e w'=>QB true q w w' e:=by
 have hs:=rtx_size q
 have h2:=rtx_size2 q
 have hc:=cut_rtoa q
 have e1 : sp1 (rtx q)=itx q.num:=ba_ext (by
  rw [itx_toList]; unfold sp1; rw [rtx_toList,hc]
  by_cases h : q.den=1<;>simp [h])
 by_cases h : q.den=1
 ·have:=from_int (rtx q) (by omega) q.num 1 (by omega) (by have:=h2.2; rw [h] at this; omega) e1 (by unfold sp2; rw [rtx_toList,hc]; simp [h]; exact dec_one') (by unfold sp3; rw [rtx_toList,hc]; simp [h]) rfl w
  have e : ((q.num : Int) : Rat)=q:=by
   refine Rat.ext rfl ?_
   rw [h]; rfl
  rwa [e] at this
 ·exact from_good (rtx q) (by omega) q.num q.den (by omega) (by omega) e1 (ba_ext (by rw [dec_toList]; unfold sp2; rw [rtx_toList,hc]; simp [h])) (by unfold sp3; rw [rtx_toList,hc]; simp [h]) (by have:=q.den_pos; omega) (rat_num_ne h) q.reduced q rfl rfl w
theorem qFrom_bad (s : ByteArray) (hs : s.size≤10000000) (h : isRat s=false) (w : World) :
  Calls Tryz.prog 97 #[.string s] w fun e w'=>QB false ((0 : Int) : Rat) w w' e:=by
 have hz:=sp_size s
 unfold isRat isRatL at h
 have e1 : (Lib.cut s.data.toList [47]).1=(sp1 s).data.toList:=by simp [sp1]
 cases hp : isIntB (sp1 s) with
 | false=>exact from_p s (sp1 s) (sp2 s) (sp3 s) (by omega) rfl rfl rfl hp (by omega) w
 | true =>
  cases hd : isNat (sp2 s).data.toList with
  | false=>exact from_d s (sp1 s) (sp2 s) (sp3 s) (by omega) rfl rfl rfl hp (by omega) hd (by omega) w
  | true =>
   obtain ⟨i,hi⟩:=isIntB_iff.1 hp
   obtain ⟨m,hm⟩ : ∃ m,sp2 s=dec m:=⟨natOf (sp2 s).data.toList,ba_ext (by rw [dec_toList,decDigits_natOf hd])⟩
   have hz1:=hz.1
   have hz2:=hz.2
   rw [hi] at hz1
   rw [hm] at hz2
   cases hf : sp3 s with
   | false =>
    have hf' : (Lib.cut s.data.toList [47]).2.2=false:=hf
    rw [hf',e1,hi,itx_toList] at h
    simp [isIntL_itoa] at h
   | true =>
    have hf' : (Lib.cut s.data.toList [47]).2.2=true:=hf
    have e2 : (Lib.cut s.data.toList [47]).2.1=(sp2 s).data.toList:=by simp [sp2,hf']
    rw [hf',if_pos rfl,e1,e2,hi,hm,itx_toList,dec_toList] at h
    by_cases hk : m≤1
    ·exact from_le s (by omega) i m (by omega) (by omega) hi hm hf hk w
    ·by_cases h0 : i=0
     ·exact from_zero s (by omega) i m (by omega) (by omega) hi hm hf (by omega) h0 w
     ·by_cases hg : Nat.gcd i.natAbs m=1
      ·exfalso
       unfold isFracL at h
       rw [isIntL_itoa,isNat_decDigits,intOfL_itoa,natOf_decDigits] at h
       have a1:=itoa_eq_zero i
       have a2:=decDigits_eq_zero m
       have a3:=decDigits_eq_one m
       simp only [bne,a1,a2,a3] at h
       rw [decide_eq_false h0,decide_eq_false (show ¬ m=0 by omega),decide_eq_false (show ¬ m=1 by omega),decide_eq_true hg] at h
       simp at h
      ·exact from_gcd s (by omega) i m (by omega) (by omega) hi hm hf (by omega) h0 hg w
end Go.Proofs.YtbnbaokamccmjaaGreatDoor
