/- vector: zip, scale, dot, height on vectors. -/
import Derived.Test.YtbnbaokamccmjaaGreatDoorE7
set_option linter.unusedVariables false
set_option linter.unusedSimpArgs false
namespace Go.Proofs.YtbnbaokamccmjaaGreatDoor
open Go Go.RowKit
theorem vzip_add (a b : V3) (ha : a.le 10000000) (hb : b.le 10000000) (w : World) (hB : Bw w) :
  Calls Tryz.prog 107 #[.func (.func 124) #[] #[],VV a,VV b] w fun e w'=>e=.returned (VV (a.add b))∧Below w.heap.size w w' :=
 zip_add _ _ _ _ _ _ _ _ _ w hB (fun w hB=>vadd_walk _ _ ha.1 hb.1 w hB) (fun w hB=>vadd_walk _ _ ha.2.1 hb.2.1 w hB) (fun w hB=>vadd_walk _ _ ha.2.2 hb.2.2 w hB)
theorem vzip_sub (a b : V3) (ha : a.le 10000000) (hb : b.le 10000000) (w : World) (hB : Bw w) :
  Calls Tryz.prog 107 #[.func (.func 108) #[] #[],VV a,VV b] w fun e w'=>e=.returned (VV (a.sub b))∧Below w.heap.size w w' :=
 zip_sub _ _ _ _ _ _ _ _ _ w hB (fun w hB=>vsub_walk _ _ ha.1 hb.1 w hB) (fun w hB=>vsub_walk _ _ ha.2.1 hb.2.1 w hB) (fun w hB=>vsub_walk _ _ ha.2.2 hb.2.2 w hB)
theorem vzip_mul (a b : V3) (ha : a.le 10000000) (hb : b.le 10000000) (w : World) (hB : Bw w) :
  Calls Tryz.prog 107 #[.func (.func 114) #[] #[],VV a,VV b] w fun e w'=>e=.returned (VV (a.mulc b))∧Below w.heap.size w w' :=
 zip_mul _ _ _ _ _ _ _ _ _ w hB (fun w hB=>vmul_walk _ _ ha.1 hb.1 w hB) (fun w hB=>vmul_walk _ _ ha.2.1 hb.2.1 w hB) (fun w hB=>vmul_walk _ _ ha.2.2 hb.2.2 w hB)
set_option maxHeartbeats 1000000 in
theorem vdot_walk (a b : V3) (ha : a.le 2000000) (hb : b.le 2000000) (w : World) (hB : Bw w) :
  Calls Tryz.prog 109 #[VV a,VV b] w fun e w'=>e=.returned (.string (rtx (a.dot b)))∧Below w.heap.size w w':=by
 have hm:=V3.le_mulc ha hb (n:=4000000) (by omega)
 have H:=Lib.hid (fun w hB=>vzip_mul a b (ha.mono (by omega)) (hb.mono (by omega)) w hB)
 have K1:=Lib.hid (fun w hB=>vadd_walk (a.mulc b).x (a.mulc b).y (by have:=hm.1; omega) (by have:=hm.2.1; omega) w hB)
 have K2:=Lib.hid (fun w hB=>vadd_walk ((a.mulc b).x + (a.mulc b).y) (a.mulc b).z (rz_add_le hm.1 hm.2.1 (by omega)) (by have:=hm.2.2; omega) w hB)
 rw [show (a.mulc b).x + (a.mulc b).y + (a.mulc b).z=a.dot b from rfl] at K2
 clear ha hb hm
 rw [VV_eq,VV_eq] at *
 rw [VV_eq] at H
 generalize rtx ((a.mulc b).x + (a.mulc b).y)=s1 at *
 generalize rtx (a.dot b)=s2 at *
 generalize rtx (a.mulc b).x=r1 at *
 generalize rtx (a.mulc b).y=r2 at *
 generalize rtx (a.mulc b).z=r3 at *
 generalize rtx a.x=x1 at *
 generalize rtx a.y=x2 at *
 generalize rtx a.z=x3 at *
 generalize rtx b.x=y1 at *
 generalize rtx b.y=y2 at *
 generalize rtx b.z=y3 at *
 go_enter Tryz.func109,Tryz.ntmps109
 go_wp2_with fail
 refine (H.out _ (hB.below bel)).mono ?_
 rintro e w1 ⟨rfl,g1⟩
 have B1:=bn (w:=w) bel g1
 clear g1
 go_wp2
 go_region_held3 (fun w'=>w'.cell? ⟨w1.heap.size,0,none⟩=some (.string r1)∧w'.cell? ⟨w1.heap.size,1,none⟩=some (.string r2)∧w'.cell? ⟨w1.heap.size,2,none⟩=some (.string r3)∧Below w.heap.size w w')
  ((go_split_ands; refine ⟨?_, ?_, ?_, ?_⟩<;>first | with_reducible assumption | ((with_reducible refine cal ?_); with_reducible assumption) | ((with_reducible refine bc g2 ?_); with_reducible assumption) | ((with_reducible refine cset ?_ ?_)<;>first | with_reducible assumption | ((try simp)<;>omega)) | ((with_reducible refine zal ?_); with_reducible assumption) | ((with_reducible refine zset ?_); with_reducible assumption) | ((with_reducible refine Nat.lt_of_lt_of_le ?_ g2.size); with_reducible assumption) | ((with_reducible refine ba ?_); with_reducible assumption) | ((with_reducible refine bn ?_ g2); with_reducible assumption) | ((with_reducible refine bs ?_ ?_)<;>first | with_reducible assumption | ((try simp)<;>omega)) | ((with_reducible refine Bk.below ?_ g2); with_reducible assumption) | ((with_reducible refine Bk.alloc ?_ _); with_reducible assumption) | ((with_reducible refine Bk.far ?_ ?_ _)<;>first | with_reducible assumption | ((try simp)<;>omega)) | ((with_reducible refine Bk.far (Bk.far (Bk.far ?_ ?_ _) ?_ _) ?_ _)<;>first | with_reducible assumption | ((try simp)<;>omega)) | ((with_reducible refine Bk.far (Bk.far (Bk.far (Bk.far ?_ ?_ _) ?_ _) ?_ _) ?_ _)<;>first | with_reducible assumption | ((try simp)<;>omega)) | (go_simp; done) | ((with_reducible refine Bk.drew ?_); exact bkk) | ((with_reducible refine bn ?_ g2); exact bel) | exact bel))
  (first | (go_at_call_of 124 (Value.string r1); refine (K1.out _ (hB.below (by go_split_ands; assumption))).mono ?_; rintro e w2 ⟨rfl,g2⟩) | (go_at_call_of 124 (Value.string s1); refine (K2.out _ (hB.below (by go_split_ands; assumption))).mono ?_; rintro e w2 ⟨rfl,g2⟩))
 go_split_ands
 go_wp2
 go_ret
 exact ⟨rfl,bel⟩
set_option maxHeartbeats 1000000 in
theorem vheight_walk (p : Pl) (a : V3) (hp : p.le 1000000) (ha : a.le 1000000) (w : World) (hB : Bw w) :
  Calls Tryz.prog 112 #[PV p,VV a] w fun e w'=>e=.returned (.string (rtx (p.height a)))∧Below w.heap.size w w':=by
 have hd:=rz_dot hp.1 ha (n:=8000000) (by omega)
 have H:=Lib.hid (fun w hB=>vdot_walk p.n a (hp.1.mono (by omega)) (ha.mono (by omega)) w hB)
 have K1:=Lib.hid (fun w hB=>vsub_walk (p.n.dot a) p.c (by omega) (by have:=hp.2; omega) w hB)
 rw [show p.n.dot a - p.c=p.height a from rfl] at K1
 clear ha hp hd
 rw [VV_eq,VV_eq] at H
 rw [VV_eq,PV_eq]
 generalize rtx (p.n.dot a)=s1 at *
 generalize rtx (p.height a)=s2 at *
 generalize rtx p.n.x=r1 at *
 generalize rtx p.n.y=r2 at *
 generalize rtx p.n.z=r3 at *
 generalize rtx p.c=r4 at *
 generalize rtx a.x=x1 at *
 generalize rtx a.y=x2 at *
 generalize rtx a.z=x3 at *
 go_enter Tryz.func112,Tryz.ntmps112
 go_wp2
 go_region_held3 (fun w'=>w'.cell? ⟨w.heap.size,0,none⟩=some (.string r1)∧w'.cell? ⟨w.heap.size,1,none⟩=some (.string r2)∧w'.cell? ⟨w.heap.size,2,none⟩=some (.string r3)∧w'.cell? ⟨w.heap.size,3,none⟩=some (.string r4)∧w'.cell? ⟨w.heap.size+1,0,none⟩=some (.string x1)∧w'.cell? ⟨w.heap.size+1,1,none⟩=some (.string x2)∧w'.cell? ⟨w.heap.size+1,2,none⟩=some (.string x3)∧Below w.heap.size w w')
  ((go_split_ands; refine ⟨?_, ?_, ?_, ?_, ?_, ?_, ?_, ?_⟩<;>first | with_reducible assumption | ((with_reducible refine cal ?_); with_reducible assumption) | ((with_reducible refine bc g2 ?_); with_reducible assumption) | ((with_reducible refine cset ?_ ?_)<;>first | with_reducible assumption | ((try simp)<;>omega)) | ((with_reducible refine zal ?_); with_reducible assumption) | ((with_reducible refine zset ?_); with_reducible assumption) | ((with_reducible refine Nat.lt_of_lt_of_le ?_ g2.size); with_reducible assumption) | ((with_reducible refine ba ?_); with_reducible assumption) | ((with_reducible refine bn ?_ g2); with_reducible assumption) | ((with_reducible refine bs ?_ ?_)<;>first | with_reducible assumption | ((try simp)<;>omega)) | ((with_reducible refine Bk.below ?_ g2); with_reducible assumption) | ((with_reducible refine Bk.alloc ?_ _); with_reducible assumption) | ((with_reducible refine Bk.far ?_ ?_ _)<;>first | with_reducible assumption | ((try simp)<;>omega)) | ((with_reducible refine Bk.far (Bk.far (Bk.far ?_ ?_ _) ?_ _) ?_ _)<;>first | with_reducible assumption | ((try simp)<;>omega)) | ((with_reducible refine Bk.far (Bk.far (Bk.far (Bk.far ?_ ?_ _) ?_ _) ?_ _) ?_ _)<;>first | with_reducible assumption | ((try simp)<;>omega)) | (go_simp; done) | ((with_reducible refine Bk.drew ?_); exact bkk) | ((with_reducible refine bn ?_ g2); exact bel) | exact bel))
  (first | (go_at_call 109; refine (H.out _ (hB.below (by go_split_ands; assumption))).mono ?_; rintro e w2 ⟨rfl,g2⟩) | (go_at_call 108; refine (K1.out _ (hB.below (by go_split_ands; assumption))).mono ?_; rintro e w2 ⟨rfl,g2⟩))
 go_split_ands
 go_wp2
 go_ret
 exact ⟨rfl,bel⟩
end Go.Proofs.YtbnbaokamccmjaaGreatDoor

/- vector: cross. -/
namespace Go.Proofs.YtbnbaokamccmjaaGreatDoor
open Go Go.RowKit
set_option maxHeartbeats 4000000 in
theorem cross_at (a0 a1 a2 b0 b1 b2 u0 u1 u2 v0 v1 v2 r0 r1 r2 : ByteArray) (w : World) (hB : Bw w)
  (hm0a : ∀ w,Bw w→Calls Tryz.prog 114 #[.string a1,.string b2] w fun e w'=>e=.returned (.string u0)∧Below w.heap.size w w')
  (hm0b : ∀ w,Bw w→Calls Tryz.prog 114 #[.string a2,.string b1] w fun e w'=>e=.returned (.string v0)∧Below w.heap.size w w')
  (hs0 : ∀ w,Bw w→Calls Tryz.prog 108 #[.string u0,.string v0] w fun e w'=>e=.returned (.string r0)∧Below w.heap.size w w')
  (hm1a : ∀ w,Bw w→Calls Tryz.prog 114 #[.string a2,.string b0] w fun e w'=>e=.returned (.string u1)∧Below w.heap.size w w')
  (hm1b : ∀ w,Bw w→Calls Tryz.prog 114 #[.string a0,.string b2] w fun e w'=>e=.returned (.string v1)∧Below w.heap.size w w')
  (hs1 : ∀ w,Bw w→Calls Tryz.prog 108 #[.string u1,.string v1] w fun e w'=>e=.returned (.string r1)∧Below w.heap.size w w')
  (hm2a : ∀ w,Bw w→Calls Tryz.prog 114 #[.string a0,.string b1] w fun e w'=>e=.returned (.string u2)∧Below w.heap.size w w')
  (hm2b : ∀ w,Bw w→Calls Tryz.prog 114 #[.string a1,.string b0] w fun e w'=>e=.returned (.string v2)∧Below w.heap.size w w')
  (hs2 : ∀ w,Bw w→Calls Tryz.prog 108 #[.string u2,.string v2] w fun e w'=>e=.returned (.string r2)∧Below w.heap.size w w') :
  Calls Tryz.prog 106 #[.agg #[.string a0,.string a1,.string a2],.agg #[.string b0,.string b1,.string b2]] w fun e w'=>e=.returned (.agg #[.string r0,.string r1,.string r2])∧Below w.heap.size w w':=by
 have Hm0a:=Lib.hid hm0a
 have Hm0b:=Lib.hid hm0b
 have Hs0:=Lib.hid hs0
 have Hm1a:=Lib.hid hm1a
 have Hm1b:=Lib.hid hm1b
 have Hs1:=Lib.hid hs1
 have Hm2a:=Lib.hid hm2a
 have Hm2b:=Lib.hid hm2b
 have Hs2:=Lib.hid hs2
 clear hm0a hm0b hs0 hm1a hm1b hs1 hm2a hm2b hs2
 have K1:=Lib.hid (fun w=>coord_exact a0 a1 a2 w)
 have K2:=Lib.hid (fun w=>coord_exact b0 b1 b2 w)
 go_enter Tryz.func106,Tryz.ntmps106
 go_upto_region 1 with fail
 go_cut [5,6] (fun s7 s8 wx=>∃ p q : Nat,s7=.pointer (some ⟨p,0,none⟩)∧s8=.pointer (some ⟨q,0,none⟩)∧w.heap.size+2<p∧w.heap.size+2<q∧Hid (Bk wx p [.string a0,.string a1,.string a2])∧Hid (Bk wx q [.string b0,.string b1,.string b2])∧Hid (Bk wx (w.heap.size+1+1) [.string ⟨#[]⟩,.string ⟨#[]⟩,.string ⟨#[]⟩])∧Below w.heap.size w wx)
 case first =>
  go_region_held3 (fun w'=>w'.cell? ⟨w.heap.size,0,none⟩=some (.string a0)∧w'.cell? ⟨w.heap.size,1,none⟩=some (.string a1)∧w'.cell? ⟨w.heap.size,2,none⟩=some (.string a2)∧w'.cell? ⟨w.heap.size+1,0,none⟩=some (.string b0)∧w'.cell? ⟨w.heap.size+1,1,none⟩=some (.string b1)∧w'.cell? ⟨w.heap.size+1,2,none⟩=some (.string b2))
   (refine ⟨?_, ?_, ?_, ?_, ?_, ?_⟩<;>first | with_reducible assumption | (go_simp; done))
   (first | (go_at_call_of 77 (Value.agg #[.string a0,.string a1,.string a2]); refine (K1.out _).mono ?_; rintro e w1 ⟨rfl,rfl⟩) | (go_at_call_of 77 (Value.agg #[.string b0,.string b1,.string b2]); refine (K2.out _).mono ?_; rintro e w1 ⟨rfl,rfl⟩))
  all_goals
   go_wp2_with fail
   go_meet
   exact ⟨_,_,rfl,rfl,by omega,by omega,Lib.hid bkk,Lib.hid bkk,Lib.hid bkk,bel⟩
 case rest =>
  obtain ⟨p,q,rfl,rfl,hp,hq,HP,HQ,HR,HW⟩:=hcut
  have hpl:=HP.out.lt
  have hql:=HQ.out.lt
  have hrl:=HR.out.lt
  have HO0 : Hid (Bk (wc.alloc (.cells #[.string ⟨#[]⟩,.string ⟨#[]⟩,.string ⟨#[]⟩] 113)) wc.heap.size [.string ⟨#[]⟩,.string ⟨#[]⟩,.string ⟨#[]⟩]):=Lib.hid (bk_new _ _ _)
  have HP0:=Lib.hid (HP.out.alloc (.cells #[.string ⟨#[]⟩,.string ⟨#[]⟩,.string ⟨#[]⟩] 113))
  have HQ0:=Lib.hid (HQ.out.alloc (.cells #[.string ⟨#[]⟩,.string ⟨#[]⟩,.string ⟨#[]⟩] 113))
  have HR0:=Lib.hid (HR.out.alloc (.cells #[.string ⟨#[]⟩,.string ⟨#[]⟩,.string ⟨#[]⟩] 113))
  have B0 : Below w.heap.size w (wc.alloc (.cells #[.string ⟨#[]⟩,.string ⟨#[]⟩,.string ⟨#[]⟩] 113)):=ba HW
  clear HP HQ HR HW
  go_wp2
  refine wp_loop_rounds 4 ?_
  rw [rounds_succ]
  obtain ⟨x0,x1,x2, -, -, -⟩:=HP0.out.c3
  obtain ⟨y0,y1,y2, -, -, -⟩:=HQ0.out.c3
  go_wp2
  go_region_held3 (fun w'=>w'.cell? ⟨p,1,none⟩=some (.string a1)∧w'.cell? ⟨p,2,none⟩=some (.string a2)∧w'.cell? ⟨q,1,none⟩=some (.string b1)∧w'.cell? ⟨q,2,none⟩=some (.string b2)∧Below w.heap.size w w')
   ((go_split_ands; refine ⟨?_, ?_, ?_, ?_, ?_⟩<;>first | with_reducible assumption | ((with_reducible refine bc g ?_); with_reducible assumption) | ((with_reducible refine bn ?_ g); with_reducible assumption) | ((with_reducible refine cset ?_ ?_)<;>first | with_reducible assumption | ((try simp)<;>omega)) | ((with_reducible refine bs ?_ ?_)<;>first | with_reducible assumption | ((try simp)<;>omega)) | (go_simp; done) | exact bel))
   (first | (go_at_call_of 114 (Value.string a1); refine (Hm0a.out _ (hB.below (by go_split_ands; assumption))).mono ?_; rintro e wx1 ⟨rfl,g⟩; have HOx1:=HO0.out.drew.below g; have HPx1:=HP0.out.drew.below g; have HQx1:=HQ0.out.drew.below g; have HRx1:=HR0.out.drew.below g; have Bx1 : Below w.heap.size w wx1:=bn (bd B0) g) | (go_at_call_of 114 (Value.string a2); refine (Hm0b.out _ (hB.below (by go_split_ands; assumption))).mono ?_; rintro e wx2 ⟨rfl,g⟩; have HOx2:=HOx1.below g; have HPx2:=HPx1.below g; have HQx2:=HQx1.below g; have HRx2:=HRx1.below g; have Bx2 : Below w.heap.size w wx2:=bn Bx1 g) | (go_at_call_of 108 (Value.string u0); refine (Hs0.out _ (hB.below (by go_split_ands; assumption))).mono ?_; rintro e wx3 ⟨rfl,g⟩; have HOx3:=HOx2.below g; have HPx3:=HPx2.below g; have HQx3:=HQx2.below g; have HRx3:=HRx2.below g; have Bx3 : Below w.heap.size w wx3:=bn Bx2 g; obtain ⟨o0,o1,o2,f0,f1,f2⟩:=HOx3.c3; have hzx:=HOx3.lt; clear HOx1 HOx2 HPx1 HPx2 HQx1 HQx2 HRx1 HRx2 Bx1 Bx2))
  have HO1:=Lib.hid (HOx3.set 0 (by simp) (.string r0))
  have HP1:=Lib.hid (HPx3.far (p:=⟨wc.heap.size,0,none⟩) (by dsimp only; omega) (.string r0))
  have HQ1:=Lib.hid (HQx3.far (p:=⟨wc.heap.size,0,none⟩) (by dsimp only; omega) (.string r0))
  have HR1:=Lib.hid (HRx3.far (p:=⟨wc.heap.size,0,none⟩) (by dsimp only; omega) (.string r0))
  have B1 : Below w.heap.size w (wx3.setCell ⟨wc.heap.size,0,none⟩ (.string r0)):=bs Bx3 (by dsimp only; omega)
  clear g HO0 HP0 HQ0 HR0 x0 x1 x2 y0 y1 y2 o0 o1 o2 f0 f1 f2 B0 HOx3 HPx3 HQx3 HRx3 Bx3
  go_wp2
  rw [rounds_succ]
  obtain ⟨x0,x1,x2, -, -, -⟩:=HP1.out.c3
  obtain ⟨y0,y1,y2, -, -, -⟩:=HQ1.out.c3
  go_wp2
  go_region_held3 (fun w'=>w'.cell? ⟨p,2,none⟩=some (.string a2)∧w'.cell? ⟨p,0,none⟩=some (.string a0)∧w'.cell? ⟨q,2,none⟩=some (.string b2)∧w'.cell? ⟨q,0,none⟩=some (.string b0)∧Below w.heap.size w w')
   ((go_split_ands; refine ⟨?_, ?_, ?_, ?_, ?_⟩<;>first | with_reducible assumption | ((with_reducible refine bc g ?_); with_reducible assumption) | ((with_reducible refine bn ?_ g); with_reducible assumption) | ((with_reducible refine cset ?_ ?_)<;>first | with_reducible assumption | ((try simp)<;>omega)) | ((with_reducible refine bs ?_ ?_)<;>first | with_reducible assumption | ((try simp)<;>omega)) | (go_simp; done) | exact bel))
   (first | (go_at_call_of 114 (Value.string a2); refine (Hm1a.out _ (hB.below (by go_split_ands; assumption))).mono ?_; rintro e wx1 ⟨rfl,g⟩; have HOx1:=HO1.out.drew.below g; have HPx1:=HP1.out.drew.below g; have HQx1:=HQ1.out.drew.below g; have HRx1:=HR1.out.drew.below g; have Bx1 : Below w.heap.size w wx1:=bn (bd B1) g) | (go_at_call_of 114 (Value.string a0); refine (Hm1b.out _ (hB.below (by go_split_ands; assumption))).mono ?_; rintro e wx2 ⟨rfl,g⟩; have HOx2:=HOx1.below g; have HPx2:=HPx1.below g; have HQx2:=HQx1.below g; have HRx2:=HRx1.below g; have Bx2 : Below w.heap.size w wx2:=bn Bx1 g) | (go_at_call_of 108 (Value.string u1); refine (Hs1.out _ (hB.below (by go_split_ands; assumption))).mono ?_; rintro e wx3 ⟨rfl,g⟩; have HOx3:=HOx2.below g; have HPx3:=HPx2.below g; have HQx3:=HQx2.below g; have HRx3:=HRx2.below g; have Bx3 : Below w.heap.size w wx3:=bn Bx2 g; obtain ⟨o0,o1,o2,f0,f1,f2⟩:=HOx3.c3; have hzx:=HOx3.lt; clear HOx1 HOx2 HPx1 HPx2 HQx1 HQx2 HRx1 HRx2 Bx1 Bx2))
  have HO2:=Lib.hid (HOx3.set 1 (by simp) (.string r1))
  have HP2:=Lib.hid (HPx3.far (p:=⟨wc.heap.size,1,none⟩) (by dsimp only; omega) (.string r1))
  have HQ2:=Lib.hid (HQx3.far (p:=⟨wc.heap.size,1,none⟩) (by dsimp only; omega) (.string r1))
  have HR2:=Lib.hid (HRx3.far (p:=⟨wc.heap.size,1,none⟩) (by dsimp only; omega) (.string r1))
  have B2 : Below w.heap.size w (wx3.setCell ⟨wc.heap.size,1,none⟩ (.string r1)):=bs Bx3 (by dsimp only; omega)
  clear g HO1 HP1 HQ1 HR1 x0 x1 x2 y0 y1 y2 o0 o1 o2 f0 f1 f2 B1 HOx3 HPx3 HQx3 HRx3 Bx3
  go_wp2
  rw [rounds_succ]
  obtain ⟨x0,x1,x2, -, -, -⟩:=HP2.out.c3
  obtain ⟨y0,y1,y2, -, -, -⟩:=HQ2.out.c3
  go_wp2
  go_region_held3 (fun w'=>w'.cell? ⟨p,0,none⟩=some (.string a0)∧w'.cell? ⟨p,1,none⟩=some (.string a1)∧w'.cell? ⟨q,0,none⟩=some (.string b0)∧w'.cell? ⟨q,1,none⟩=some (.string b1)∧Below w.heap.size w w')
   ((go_split_ands; refine ⟨?_, ?_, ?_, ?_, ?_⟩<;>first | with_reducible assumption | ((with_reducible refine bc g ?_); with_reducible assumption) | ((with_reducible refine bn ?_ g); with_reducible assumption) | ((with_reducible refine cset ?_ ?_)<;>first | with_reducible assumption | ((try simp)<;>omega)) | ((with_reducible refine bs ?_ ?_)<;>first | with_reducible assumption | ((try simp)<;>omega)) | (go_simp; done) | exact bel))
   (first | (go_at_call_of 114 (Value.string a0); refine (Hm2a.out _ (hB.below (by go_split_ands; assumption))).mono ?_; rintro e wx1 ⟨rfl,g⟩; have HOx1:=HO2.out.drew.below g; have HPx1:=HP2.out.drew.below g; have HQx1:=HQ2.out.drew.below g; have HRx1:=HR2.out.drew.below g; have Bx1 : Below w.heap.size w wx1:=bn (bd B2) g) | (go_at_call_of 114 (Value.string a1); refine (Hm2b.out _ (hB.below (by go_split_ands; assumption))).mono ?_; rintro e wx2 ⟨rfl,g⟩; have HOx2:=HOx1.below g; have HPx2:=HPx1.below g; have HQx2:=HQx1.below g; have HRx2:=HRx1.below g; have Bx2 : Below w.heap.size w wx2:=bn Bx1 g) | (go_at_call_of 108 (Value.string u2); refine (Hs2.out _ (hB.below (by go_split_ands; assumption))).mono ?_; rintro e wx3 ⟨rfl,g⟩; have HOx3:=HOx2.below g; have HPx3:=HPx2.below g; have HQx3:=HQx2.below g; have HRx3:=HRx2.below g; have Bx3 : Below w.heap.size w wx3:=bn Bx2 g; obtain ⟨o0,o1,o2,f0,f1,f2⟩:=HOx3.c3; have hzx:=HOx3.lt; clear HOx1 HOx2 HPx1 HPx2 HQx1 HQx2 HRx1 HRx2 Bx1 Bx2))
  have HO3:=Lib.hid (HOx3.set 2 (by simp) (.string r2))
  have HP3:=Lib.hid (HPx3.far (p:=⟨wc.heap.size,2,none⟩) (by dsimp only; omega) (.string r2))
  have HQ3:=Lib.hid (HQx3.far (p:=⟨wc.heap.size,2,none⟩) (by dsimp only; omega) (.string r2))
  have HR3:=Lib.hid (HRx3.far (p:=⟨wc.heap.size,2,none⟩) (by dsimp only; omega) (.string r2))
  have B3 : Below w.heap.size w (wx3.setCell ⟨wc.heap.size,2,none⟩ (.string r2)):=bs Bx3 (by dsimp only; omega)
  clear g HO2 HP2 HQ2 HR2 x0 x1 x2 y0 y1 y2 o0 o1 o2 f0 f1 f2 B2 HOx3 HPx3 HQx3 HRx3 Bx3
  go_wp2
  rw [rounds_succ]
  obtain ⟨o0,o1,o2, -, -, -⟩:=HO3.out.c3
  go_wp2_with fail
  refine (vof_walk _ _ _ _).mono ?_
  rintro e w9 ⟨rfl,g9⟩
  obtain ⟨q0,q1,q2,f0,f1,f2⟩:=(HR3.out.below g9).c3
  have hz9 : w.heap.size+2<w9.heap.size:=hzs g9
  have B9:=bn (w:=w) bel g9
  clear g9 HO3 HP3 HQ3 HR3 o0 o1 o2
  go_wp2
  refine bodyPost_ret (v:=.agg #[.string r0,.string r1,.string r2]) (by simp [results,Tryz.results106,go_sem, *]) rfl ⟨(by first | rfl | rw [hI]),bel⟩
theorem vcross_walk (a b : V3) (ha : a.le 2000000) (hb : b.le 2000000) (w : World) (hB : Bw w) :
  Calls Tryz.prog 106 #[VV a,VV b] w fun e w'=>e=.returned (VV (a.cross b))∧Below w.heap.size w w':=by
 have ha':=ha.mono (show 2000000≤10000000 by omega)
 have hb':=hb.mono (show 2000000≤10000000 by omega)
 obtain ⟨x1,x2,x3⟩:=ha
 obtain ⟨y1,y2,y3⟩:=hb
 refine cross_at (rtx a.x) (rtx a.y) (rtx a.z) (rtx b.x) (rtx b.y) (rtx b.z) _ _ _ _ _ _ _ _ _ w hB
  (fun w hB=>vmul_walk a.y b.z ha'.2.1 hb'.2.2 w hB) (fun w hB=>vmul_walk a.z b.y ha'.2.2 hb'.2.1 w hB) (fun w hB=>vsub_walk _ _ ?_ ?_ w hB)
  (fun w hB=>vmul_walk a.z b.x ha'.2.2 hb'.1 w hB) (fun w hB=>vmul_walk a.x b.z ha'.1 hb'.2.2 w hB) (fun w hB=>vsub_walk _ _ ?_ ?_ w hB)
  (fun w hB=>vmul_walk a.x b.y ha'.1 hb'.2.1 w hB) (fun w hB=>vmul_walk a.y b.x ha'.2.1 hb'.1 w hB) (fun w hB=>vsub_walk _ _ ?_ ?_ w hB)
 all_goals exact rz_mul_le (by assumption) (by assumption) (by omega)
end Go.Proofs.YtbnbaokamccmjaaGreatDoor

/- Words for the walks: slices of vectors. -/
namespace Go.Proofs.YtbnbaokamccmjaaGreatDoor
open Go Go.RowKit
def SV.cells (s : SV) : List Value:=[.string s.x,.string s.y,.string s.z]
def svs (l : List SV) : List Value:=l.flatMap SV.cells
theorem svs_length (l : List SV) : (svs l).length=l.length * 3:=by
 induction l with
 | nil=>rfl
 | cons a l ih =>
  show (a.cells++svs l).length=_
  rw [List.length_append,ih,List.length_cons]
  simp [SV.cells]; omega
theorem svs_append (a b : List SV) : svs (a++b)=svs a++svs b:=by simp [svs]
theorem svs_get : ∀ (l : List SV) (j : Nat) (s : SV),l[j]?=some s→(svs l)[j * 3]?=some (.string s.x)∧(svs l)[j * 3+1]?=some (.string s.y)∧(svs l)[j * 3+2]?=some (.string s.z)
 | [],_,_,h=>by simp at h
 | a :: l,0,s,h=>by
  simp at h
  subst h
  exact ⟨rfl,rfl,rfl⟩
 | a :: l,j+1,s,h=>by
  have ih:=svs_get l j s (by simpa using h)
  have e : svs (a :: l)=.string a.x :: .string a.y :: .string a.z :: svs l:=rfl
  rw [e,show (j+1) * 3=j * 3+1+1+1 by omega]
  simpa using ih
def Vs (w : World) (v : Value) (l : List SV) : Prop:=Rd w 3 v l.length (svs l)
theorem Vs.below {w w1 : World} {v : Value} {l : List SV} (h : Vs w v l) (hb : Below w.heap.size w w1) : Vs w1 v l:=Rd.below h hb
theorem Vs.own {w : World} {base : Nat} {e : TypeId} {v : Value} {l : List SV} (h : w.ownsRow base e 3 v l.length (svs l)) : Vs w v l:=Rd.own h
theorem Vs.open {w : World} {v : Value} {l : List SV} (h : Vs w v l) : ∃ A cap,v=.slice A l.length cap∧l.length≤cap∧cap≤9223372036854775807 ∧
  (0<l.length→∃ b off,A=some ⟨b,off,none⟩∧∀ j s,l[j]?=some s→w.cell? ⟨b,off+j * 3,none⟩=some (.string s.x)∧w.cell? ⟨b,off+j * 3+1,none⟩=some (.string s.y)∧w.cell? ⟨b,off+j * 3+2,none⟩=some (.string s.z)):=by
 obtain ⟨_,A,cap,hv,hn,hc,h⟩:=h
 refine ⟨A,cap,hv,hn,by unfold maxLen at hc; exact hc,fun h0=>?_⟩
 obtain ⟨b,off,hA,hcell⟩:=h h0
 refine ⟨b,off,hA,fun j s hj=>?_⟩
 obtain ⟨h1,h2,h3⟩:=svs_get l j s hj
 exact ⟨hcell _ _ h1,hcell _ _ h2,hcell _ _ h3⟩
end Go.Proofs.YtbnbaokamccmjaaGreatDoor

/- vector: check. -/
namespace Go.Proofs.YtbnbaokamccmjaaGreatDoor
open Go Go.RowKit
def chk (l : List SV) : Int:=if l.all isVec then 0 else 1
theorem chk_yes {l : List SV} (h : l.all isVec=true) : chk l=0:=by rw [chk,if_pos h]
theorem chk_no {l : List SV} (h : l.all isVec=false) : chk l=1:=by rw [chk,h]; rfl
theorem ret_i64 {a b : Int} (h : a=b) : Ending.returned (.int .i64 a)=.returned (.int .i64 b):=by rw [h]
set_option maxHeartbeats 1000000 in
theorem vcheck_walk (v : Value) (l : List SV) (w : World) (hB : Bw w) (hv : Vs w v l) (hs : ∀ s ∈ l,s.le 40000000) :
  Calls Tryz.prog 105 #[v] w fun e w'=>e=.returned (.int .i64 (chk l))∧Below w.heap.size w w':=by
 obtain ⟨A,cap,rfl,hn,hc,hcell⟩:=hv.open
 go_enter Tryz.func105,Tryz.ntmps105
 go_wp2
 go_loopw [7] (fun ii wr=>∃ k : Nat,k≤l.length∧ii=.int .i64 k∧Hid ((l.take k).all isVec=true)∧Below w.heap.size w wr) (fun ii _=>l.length - (intOf ii).toNat)
 case atStart=>exact ⟨0,Nat.zero_le _,rfl,Lib.hid rfl,Below.refl _ _⟩
 case round =>
  obtain ⟨k,hk,rfl,hd,hb⟩:=hrel
  by_cases hlt : k<l.length
  ·obtain ⟨b,off,rfl,hcl⟩:=hcell (by omega)
   have hg : l[k]?=some l[k]:=List.getElem?_eq_getElem hlt
   obtain ⟨c0,c1,c2⟩:=hcl k _ hg
   have hle:=hs l[k] (List.getElem_mem hlt)
   clear hg hcl hcell
   obtain ⟨s,hs0⟩ : ∃ s,s=l[k]:=⟨_,rfl⟩
   rw [← hs0] at c0 c1 c2 hle
   have d0:=cell_below hb c0
   have d1:=cell_below hb c1
   have d2:=cell_below hb c2
   have HV:=Lib.hid (fun w hB=>vValid_walk s hle w hB)
   unfold SV.val at HV
   have ht : Hid (isVec s=true→(l.take (k+1)).all isVec=true):=Lib.hid (fun h=>by
    rw [List.take_succ_eq_append_getElem hlt,List.all_append,hd.out,← hs0]
    simp [h])
   have hf : Hid (isVec s=false→l.all isVec=false):=Lib.hid (fun h=>by
    rw [hs0] at h
    exact List.all_eq_false.2 ⟨l[k],List.getElem_mem hlt,by rw [h]; decide⟩)
   clear hs0 hle c0 c1 c2 hs
   generalize s.x=x1 at *
   generalize s.y=x2 at *
   generalize s.z=x3 at *
   generalize hr : isVec s=r at *
   clear hr
   go_wp2_with fail
   refine (HV.out _ (hB.below bel)).mono ?_
   rintro e w1 ⟨rfl,g1⟩
   have B1:=bn (w:=w) bel g1
   clear g1
   cases r
   ·have HF:=Lib.hid (hf.out rfl)
    clear hf ht
    go_wp2
    go_ret
    exact ⟨ret_i64 (chk_no HF.out).symm,bel⟩
   ·have HT:=Lib.hid (ht.out rfl)
    clear hf ht
    go_wp2
    go_roundw
    case rel=>exact ⟨k+1,by omega,by go_num,HT,bel⟩
    case measure=>simp [intOf]; omega
  ·obtain rfl : k=l.length:=by omega
   have hall:=hd.out
   rw [List.take_length] at hall
   have HA:=Lib.hid hall
   clear hall hd
   go_wp2
   go_ret
   exact ⟨ret_i64 (chk_yes HA.out).symm,bel⟩
end Go.Proofs.YtbnbaokamccmjaaGreatDoor

/- vector: Add, Scale. -/
namespace Go.Proofs.YtbnbaokamccmjaaGreatDoor
open Go Go.RowKit
theorem vs_lit (W : World) (l : List SV) (vs : Array Value) (n p : Nat) (h : vs.toList=svs l) (hn : n=l.length) (hm : l.length≤1000) (hp : p=W.heap.size) : Vs (W.alloc (.cells vs 25)) (.slice (some ⟨p,0,none⟩) n n) l:=by
 subst hn hp
 refine ⟨svs_length l,some ⟨W.heap.size,0,none⟩,l.length,rfl,Nat.le_refl _,by unfold maxLen; omega,fun h0=>⟨W.heap.size,0,rfl,fun j u hu=>?_⟩⟩
 rw [Nat.zero_add]
 rw [← h,Array.getElem?_toList] at hu
 rw [World.cell?_alloc_at _ _ _ _ rfl,hu]
def txv (a : V3) : SV:=⟨rtx a.x,rtx a.y,rtx a.z⟩
theorem txv_val (a : V3) : (txv a).val=VV a:=rfl
theorem isVec_txv (a : V3) : isVec (txv a)=true:=by simp [isVec,txv,isRat_rtx]
theorem txv_le {a : V3} {k : Nat} (h : a.le k) : (txv a).le (2 * k+2) :=
 ⟨by have:=rtx_size a.x; have:=h.1; simp only [txv]; omega,by have:=rtx_size a.y; have:=h.2.1; simp only [txv]; omega,by have:=rtx_size a.z; have:=h.2.2; simp only [txv]; omega⟩
theorem txv_inj {a b : V3} (h : txv a=txv b) : a=b:=by
 simp only [txv,SV.mk.injEq,rtx_eq] at h
 cases a; cases b
 simp only [V3.mk.injEq]
 exact h
theorem isVec_iff {s : SV} : isVec s=true↔∃ a,s=txv a:=by
 constructor
 ·intro h
  unfold isVec at h
  rw [Bool.and_eq_true,Bool.and_eq_true] at h
  obtain ⟨⟨h1,h2⟩,h3⟩:=h
  obtain ⟨x,hx⟩:=isRat_iff.1 h1
  obtain ⟨y,hy⟩:=isRat_iff.1 h2
  obtain ⟨z,hz⟩:=isRat_iff.1 h3
  refine ⟨⟨x,y,z⟩, ?_⟩
  cases s
  simp only at hx hy hz
  subst hx hy hz
  rfl
 ·rintro ⟨a,rfl⟩
  exact isVec_txv a
set_option maxHeartbeats 1000000 in
theorem vadd1_walk (a b : V3) (ha : a.le 10000000) (hb : b.le 10000000) (w : World) (hB : Bw w) :
  Calls Tryz.prog 123 #[VV a,VV b] w fun e w'=>e=.returned (VV (a.add b))∧Below w.heap.size w w':=by
 have H:=Lib.hid (fun w hB=>vzip_add a b ha hb w hB)
 clear ha hb
 rw [VV_eq,VV_eq,VV_eq] at *
 generalize rtx a.x=x1 at *
 generalize rtx a.y=x2 at *
 generalize rtx a.z=x3 at *
 generalize rtx b.x=y1 at *
 generalize rtx b.y=y2 at *
 generalize rtx b.z=y3 at *
 generalize rtx (a.add b).x=r1 at *
 generalize rtx (a.add b).y=r2 at *
 generalize rtx (a.add b).z=r3 at *
 go_enter Tryz.func123,Tryz.ntmps123
 go_wp2_with fail
 refine (H.out _ (hB.below bel)).mono ?_
 rintro e w1 ⟨rfl,g1⟩
 have hz1 : w.heap.size+2<w1.heap.size:=hzs g1
 have hz1_0 : w.heap.size<w1.heap.size:=by omega
 have hz1_1 : w.heap.size+1<w1.heap.size:=by omega
 have B1:=bn (w:=w) bel g1
 have c1_2_0:=bcv g1 (w.heap.size+1+1) 0 (.string ⟨#[]⟩)
 have f1_2_0:=bfv g1 (w.heap.size+1+1) 0
 have c1_2_1:=bcv g1 (w.heap.size+1+1) 1 (.string ⟨#[]⟩)
 have f1_2_1:=bfv g1 (w.heap.size+1+1) 1
 have c1_2_2:=bcv g1 (w.heap.size+1+1) 2 (.string ⟨#[]⟩)
 have f1_2_2:=bfv g1 (w.heap.size+1+1) 2
 clear g1
 go_wp2
 refine bodyPost_ret (v:=.agg #[.string r1,.string r2,.string r3]) (by simp [results,Tryz.results123,go_sem, *]) rfl ⟨(by first | rfl | rw [hI]),bel⟩
set_option maxHeartbeats 1000000 in
theorem vapply_add (a b : V3) (ha : a.le 10000000) (hb : b.le 10000000) (w : World) (hB : Bw w) :
  Calls Tryz.prog 122 #[.func (.func 123) #[] #[],VV a,VV b] w fun e w'=>e=.returned (.tuple #[VV (a.add b),.int .i64 0])∧Below w.heap.size w w':=by
 have H:=Lib.hid (fun w hB=>vadd1_walk a b ha hb w hB)
 have K:=Lib.hid (fun (w : World) (v : Value) hB hv=>vcheck_walk v [txv a,txv b] w hB hv (fun s hs=>by
  simp at hs
  rcases hs with rfl | rfl
  ·have:=txv_le ha; exact ⟨by have:=this.1; omega,by have:=this.2.1; omega,by have:=this.2.2; omega⟩
  ·have:=txv_le hb; exact ⟨by have:=this.1; omega,by have:=this.2.1; omega,by have:=this.2.2; omega⟩))
 have KC:=Lib.hid (show chk [txv a,txv b]=0 from chk_yes (by simp [isVec_txv]))
 have KV:=Lib.hid (fun (W : World) p hp=>vs_lit W [txv a,txv b] #[.string (rtx a.x),.string (rtx a.y),.string (rtx a.z),.string (rtx b.x),.string (rtx b.y),.string (rtx b.z)] 2 p rfl rfl (by simp) hp)
 clear ha hb
 rw [VV_eq,VV_eq,VV_eq] at *
 generalize rtx a.x=x1 at *
 generalize rtx a.y=x2 at *
 generalize rtx a.z=x3 at *
 generalize rtx b.x=y1 at *
 generalize rtx b.y=y2 at *
 generalize rtx b.z=y3 at *
 generalize rtx (a.add b).x=r1 at *
 generalize rtx (a.add b).y=r2 at *
 generalize rtx (a.add b).z=r3 at *
 go_enter Tryz.func122,Tryz.ntmps122
 go_wp2_with fail
 refine (K.out _ _ (hB.below bel) (KV.out _ _ (by simp))).mono ?_
 rintro e w1 ⟨rfl,g1⟩
 rw [KC.out]
 have hz1 : w.heap.size+2<w1.heap.size:=hzs g1
 have hz1_0 : w.heap.size<w1.heap.size:=by omega
 have hz1_1 : w.heap.size+1<w1.heap.size:=by omega
 have B1:=bn (w:=w) bel g1
 have c1_0_0:=bcv g1 w.heap.size 0 (.string x1)
 have f1_0_0:=bfv g1 w.heap.size 0
 have c1_0_1:=bcv g1 w.heap.size 1 (.string x2)
 have f1_0_1:=bfv g1 w.heap.size 1
 have c1_0_2:=bcv g1 w.heap.size 2 (.string x3)
 have f1_0_2:=bfv g1 w.heap.size 2
 have c1_1_0:=bcv g1 (w.heap.size+1) 0 (.string y1)
 have f1_1_0:=bfv g1 (w.heap.size+1) 0
 have c1_1_1:=bcv g1 (w.heap.size+1) 1 (.string y2)
 have f1_1_1:=bfv g1 (w.heap.size+1) 1
 have c1_1_2:=bcv g1 (w.heap.size+1) 2 (.string y3)
 have f1_1_2:=bfv g1 (w.heap.size+1) 2
 have c1_2_0:=bcv g1 (w.heap.size+1+1) 0 (.string ⟨#[]⟩)
 have f1_2_0:=bfv g1 (w.heap.size+1+1) 0
 have c1_2_1:=bcv g1 (w.heap.size+1+1) 1 (.string ⟨#[]⟩)
 have f1_2_1:=bfv g1 (w.heap.size+1+1) 1
 have c1_2_2:=bcv g1 (w.heap.size+1+1) 2 (.string ⟨#[]⟩)
 have f1_2_2:=bfv g1 (w.heap.size+1+1) 2
 clear g1
 go_wp2_with fail
 refine (H.out _ (hB.below bel)).mono ?_
 rintro e w2 ⟨rfl,g2⟩
 have hz2 : w.heap.size+2<w2.heap.size:=hzs g2
 have hz2_0 : w.heap.size<w2.heap.size:=by omega
 have hz2_1 : w.heap.size+1<w2.heap.size:=by omega
 have B2:=bn (w:=w) bel g2
 have c2_2_0:=bcv g2 (w.heap.size+1+1) 0 (.string ⟨#[]⟩)
 have f2_2_0:=bfv g2 (w.heap.size+1+1) 0
 have c2_2_1:=bcv g2 (w.heap.size+1+1) 1 (.string ⟨#[]⟩)
 have f2_2_1:=bfv g2 (w.heap.size+1+1) 1
 have c2_2_2:=bcv g2 (w.heap.size+1+1) 2 (.string ⟨#[]⟩)
 have f2_2_2:=bfv g2 (w.heap.size+1+1) 2
 clear g2
 go_wp2
 refine bodyPost_ret (v:=.tuple #[.agg #[.string r1,.string r2,.string r3],.int .i64 0]) (by simp [results,Tryz.results122,go_sem, *]) rfl ⟨(by first | rfl | rw [hI]),bel⟩
set_option maxHeartbeats 1000000 in
theorem vecAdd_walk (a b : V3) (ha : a.le 10000000) (hb : b.le 10000000) (w : World) (hB : Bw w) :
  Calls Tryz.prog 88 #[VV a,VV b] w fun e w'=>e=.returned (.tuple #[VV (a.add b),.int .i64 0])∧Below w.heap.size w w':=by
 have H:=Lib.hid (fun w hB=>vapply_add a b ha hb w hB)
 clear ha hb
 rw [VV_eq,VV_eq,VV_eq] at *
 generalize rtx a.x=x1 at *
 generalize rtx a.y=x2 at *
 generalize rtx a.z=x3 at *
 generalize rtx b.x=y1 at *
 generalize rtx b.y=y2 at *
 generalize rtx b.z=y3 at *
 generalize rtx (a.add b).x=r1 at *
 generalize rtx (a.add b).y=r2 at *
 generalize rtx (a.add b).z=r3 at *
 go_enter Tryz.func88,Tryz.ntmps88
 go_wp2_with fail
 refine (H.out _ (hB.below bel)).mono ?_
 rintro e w1 ⟨rfl,g1⟩
 have hz1 : w.heap.size+2<w1.heap.size:=hzs g1
 have hz1_0 : w.heap.size<w1.heap.size:=by omega
 have hz1_1 : w.heap.size+1<w1.heap.size:=by omega
 have B1:=bn (w:=w) bel g1
 have c1_2_0:=bcv g1 (w.heap.size+1+1) 0 (.string ⟨#[]⟩)
 have f1_2_0:=bfv g1 (w.heap.size+1+1) 0
 have c1_2_1:=bcv g1 (w.heap.size+1+1) 1 (.string ⟨#[]⟩)
 have f1_2_1:=bfv g1 (w.heap.size+1+1) 1
 have c1_2_2:=bcv g1 (w.heap.size+1+1) 2 (.string ⟨#[]⟩)
 have f1_2_2:=bfv g1 (w.heap.size+1+1) 2
 clear g1
 go_wp2
 refine bodyPost_ret (v:=.tuple #[.agg #[.string r1,.string r2,.string r3],.int .i64 0]) (by simp [results,Tryz.results88,go_sem, *]) rfl ⟨(by first | rfl | rw [hI]),bel⟩
end Go.Proofs.YtbnbaokamccmjaaGreatDoor

/- vector: plane, Side. -/
namespace Go.Proofs.YtbnbaokamccmjaaGreatDoor
open Go Go.RowKit
theorem eql_vec (a b c d e f : ByteArray) : ∀ w,(binOp .eql 25 (.agg #[.string a,.string b,.string c]) (.agg #[.string d,.string e,.string f])).run Tryz.prog w=.ok (.bool (a.toList == d.toList && (b.toList == e.toList && c.toList == f.toList))) w:=by
 intro w
 go_simp
 by_cases h1 : a.toList=d.toList<;>by_cases h2 : b.toList=e.toList<;>by_cases h3 : c.toList=f.toList<;>simp [h1,h2,h3]
theorem toList_beq (a b : ByteArray) : (a.toList == b.toList)=decide (a=b):=by
 by_cases h : a=b
 ·subst h; simp
 ·rw [decide_eq_false h]
  refine beq_eq_false_iff_ne.2 fun e=>h (ba_ext ?_)
  rwa [ByteArray.toList_eq,ByteArray.toList_eq] at e
def plc (n : V3) : Int:=if n=V3.zero then 1 else 0
theorem plc_zero {n : V3} (h : n=V3.zero) : plc n=1:=if_pos h
theorem plc_ne {n : V3} (h : n≠V3.zero) : plc n=0:=if_neg h
theorem zero_texts (n : V3) : ((rtx n.x).toList == (⟨#[48]⟩ : ByteArray).toList && ((rtx n.y).toList == (⟨#[48]⟩ : ByteArray).toList && (rtx n.z).toList == (⟨#[48]⟩ : ByteArray).toList))=decide (n=V3.zero):=by
 rw [← rtx_zero,toList_beq,toList_beq,toList_beq]
 simp only [rtx_eq]
 by_cases h : n=V3.zero
 ·have:=(V3.zero_iff n).1 h
  simp [h,this]
  exact ⟨rfl,rfl,rfl⟩
 ·rw [decide_eq_false h]
  have h2 : ¬ (n.x=0∧n.y=0∧n.z=0):=fun e=>h ((V3.zero_iff n).2 e)
  by_cases a : n.x=0
  ·by_cases b : n.y=0
   ·have c : ¬ n.z=0:=fun c=>h2 ⟨a,b,c⟩
    simp [a,b,c]
   ·simp [a,b]
  ·simp [a]
set_option maxHeartbeats 2000000 in
theorem vplane_at (x1 x2 x3 x4 : ByteArray) (r : Bool) (w : World) (hB : Bw w)
  (hr : (x1.toList == (⟨#[48]⟩ : ByteArray).toList && (x2.toList == (⟨#[48]⟩ : ByteArray).toList && x3.toList == (⟨#[48]⟩ : ByteArray).toList))=r)
  (h1 : ∀ w,Bw w→Calls Tryz.prog 33 #[.agg #[.string x1,.string x2,.string x3]] w fun e w'=>e=.returned (.bool true)∧Below w.heap.size w w')
  (h2 : ∀ w,Bw w→Calls Tryz.prog 78 #[.string x4] w fun e w'=>e=.returned (.bool true)∧Below w.heap.size w w') :
  Calls Tryz.prog 110 #[.agg #[.string x1,.string x2,.string x3,.string x4]] w fun e w'=>e=.returned (.int .i64 (if r then 1 else 0))∧Below w.heap.size w w':=by
 have H1:=Lib.hid h1
 have H2:=Lib.hid h2
 have heq : ∀ w,(binOp .eql 25 (.agg #[.string x1,.string x2,.string x3]) (.agg #[.string ⟨#[48]⟩,.string ⟨#[48]⟩,.string ⟨#[48]⟩])).run Tryz.prog w=.ok (.bool r) w:=fun w=>by rw [eql_vec,hr]
 clear h1 h2 hr
 cases r
 all_goals
  go_enter Tryz.func110,Tryz.ntmps110
  go_wp2
  go_region_held3 (fun w'=>w'.cell? ⟨w.heap.size,0,none⟩=some (.string x1)∧w'.cell? ⟨w.heap.size,1,none⟩=some (.string x2)∧w'.cell? ⟨w.heap.size,2,none⟩=some (.string x3)∧w'.cell? ⟨w.heap.size,3,none⟩=some (.string x4)∧Below w.heap.size w w')
   ((go_split_ands; refine ⟨?_, ?_, ?_, ?_, ?_⟩<;>first | with_reducible assumption | ((with_reducible refine cal ?_); with_reducible assumption) | ((with_reducible refine bc g ?_); with_reducible assumption) | ((with_reducible refine cset ?_ ?_)<;>first | with_reducible assumption | ((try simp)<;>omega)) | ((with_reducible refine zal ?_); with_reducible assumption) | ((with_reducible refine zset ?_); with_reducible assumption) | ((with_reducible refine Nat.lt_of_lt_of_le ?_ g.size); with_reducible assumption) | ((with_reducible refine ba ?_); with_reducible assumption) | ((with_reducible refine bn ?_ g); with_reducible assumption) | ((with_reducible refine bs ?_ ?_)<;>first | with_reducible assumption | ((try simp)<;>omega)) | ((with_reducible refine Bk.below ?_ g); with_reducible assumption) | ((with_reducible refine Bk.alloc ?_ _); with_reducible assumption) | ((with_reducible refine Bk.far ?_ ?_ _)<;>first | with_reducible assumption | ((try simp)<;>omega)) | ((with_reducible refine Bk.far (Bk.far (Bk.far ?_ ?_ _) ?_ _) ?_ _)<;>first | with_reducible assumption | ((try simp)<;>omega)) | ((with_reducible refine Bk.far (Bk.far (Bk.far (Bk.far ?_ ?_ _) ?_ _) ?_ _) ?_ _)<;>first | with_reducible assumption | ((try simp)<;>omega)) | (go_simp; done) | ((with_reducible refine Bk.drew ?_); exact bkk) | ((with_reducible refine bn ?_ g); exact bel) | exact bel))
   (first | (go_at_call 33; refine (H1.out _ (hB.below (by go_split_ands; assumption))).mono ?_; rintro e w1 ⟨rfl,g⟩) | (go_at_call 78; refine (H2.out _ (hB.below (by go_split_ands; assumption))).mono ?_; rintro e w1 ⟨rfl,g⟩) | (go_at_call 115; refine (vof_walk _ _ _ _).mono ?_; rintro e w1 ⟨rfl,g⟩))
  go_split_ands
  clear heq
  go_wp2
  go_ret
  exact ⟨rfl,bel⟩
theorem vplane_walk (p : Pl) (hp : p.le 10000000) (w : World) (hB : Bw w) :
  Calls Tryz.prog 110 #[PV p] w fun e w'=>e=.returned (.int .i64 (plc p.n))∧Below w.heap.size w w':=by
 have hl:=txv_le hp.1
 have K1:=fun w hB=>vValid_walk (txv p.n) ⟨by have:=hl.1; omega,by have:=hl.2.1; omega,by have:=hl.2.2; omega⟩ w hB
 have K2:=fun w hB=>rValid_walk (rtx p.c) (by have:=rtx_size p.c; have:=hp.2; omega) w hB
 rw [isVec_txv] at K1
 rw [isRat_rtx] at K2
 have h:=vplane_at (rtx p.n.x) (rtx p.n.y) (rtx p.n.z) (rtx p.c) _ w hB (zero_texts p.n) K1 K2
 have e : (if decide (p.n=V3.zero)=true then (1 : Int) else 0)=plc p.n:=by
  unfold plc
  by_cases h : p.n=V3.zero<;>simp [h]
 rw [e] at h
 exact h
set_option maxHeartbeats 2000000 in
theorem vSide_walk (p : Pl) (a : V3) (h0 : p.n≠V3.zero) (hp : p.le 1000000) (ha : a.le 1000000) (w : World) (hB : Bw w) :
  Calls Tryz.prog 75 #[PV p,VV a] w fun e w'=>e=.returned (.tuple #[.int .i64 (rsg (p.height a)),.int .i64 0])∧Below w.heap.size w w':=by
 have hh:=rz_height hp ha (n:=8000000) (by omega)
 have hl:=txv_le ha
 have K0:=Lib.hid (fun w hB=>vplane_walk p ⟨hp.1.mono (by omega),by have:=hp.2; omega⟩ w hB)
 rw [plc_ne h0] at K0
 have K1:=Lib.hid (fun w hB=>vValid_walk (txv a) ⟨by have:=hl.1; omega,by have:=hl.2.1; omega,by have:=hl.2.2; omega⟩ w hB)
 rw [isVec_txv,txv_val] at K1
 have K2:=Lib.hid (fun w hB=>vheight_walk p a hp ha w hB)
 have K3:=Lib.hid (fun w hB=>vsign_walk (p.height a) (by omega) w hB)
 clear h0 hp ha hh hl
 rw [PV_eq,VV_eq] at *
 generalize rtx p.n.x=x1 at *
 generalize rtx p.n.y=x2 at *
 generalize rtx p.n.z=x3 at *
 generalize rtx p.c=x4 at *
 generalize rtx a.x=y1 at *
 generalize rtx a.y=y2 at *
 generalize rtx a.z=y3 at *
 generalize rsg (p.height a)=r at *
 generalize rtx (p.height a)=s at *
 go_enter Tryz.func75,Tryz.ntmps75
 go_wp2_with fail
 refine (K0.out _ (hB.below bel)).mono ?_
 rintro e w1 ⟨rfl,g1⟩
 have hz1 : w.heap.size+1<w1.heap.size:=hzs g1
 have hz1_0 : w.heap.size<w1.heap.size:=by omega
 have B1:=bn (w:=w) bel g1
 have c1_0_0:=bcv g1 w.heap.size 0 (.string x1)
 have f1_0_0:=bfv g1 w.heap.size 0
 have c1_0_1:=bcv g1 w.heap.size 1 (.string x2)
 have f1_0_1:=bfv g1 w.heap.size 1
 have c1_0_2:=bcv g1 w.heap.size 2 (.string x3)
 have f1_0_2:=bfv g1 w.heap.size 2
 have c1_0_3:=bcv g1 w.heap.size 3 (.string x4)
 have f1_0_3:=bfv g1 w.heap.size 3
 have c1_1_0:=bcv g1 (w.heap.size+1) 0 (.string y1)
 have f1_1_0:=bfv g1 (w.heap.size+1) 0
 have c1_1_1:=bcv g1 (w.heap.size+1) 1 (.string y2)
 have f1_1_1:=bfv g1 (w.heap.size+1) 1
 have c1_1_2:=bcv g1 (w.heap.size+1) 2 (.string y3)
 have f1_1_2:=bfv g1 (w.heap.size+1) 2
 clear g1
 go_wp2_with fail
 refine (K1.out _ (hB.below bel)).mono ?_
 rintro e w2 ⟨rfl,g2⟩
 have hz2 : w.heap.size+1<w2.heap.size:=hzs g2
 have hz2_0 : w.heap.size<w2.heap.size:=by omega
 have B2:=bn (w:=w) bel g2
 have c2_0_0:=bcv g2 w.heap.size 0 (.string x1)
 have f2_0_0:=bfv g2 w.heap.size 0
 have c2_0_1:=bcv g2 w.heap.size 1 (.string x2)
 have f2_0_1:=bfv g2 w.heap.size 1
 have c2_0_2:=bcv g2 w.heap.size 2 (.string x3)
 have f2_0_2:=bfv g2 w.heap.size 2
 have c2_0_3:=bcv g2 w.heap.size 3 (.string x4)
 have f2_0_3:=bfv g2 w.heap.size 3
 have c2_1_0:=bcv g2 (w.heap.size+1) 0 (.string y1)
 have f2_1_0:=bfv g2 (w.heap.size+1) 0
 have c2_1_1:=bcv g2 (w.heap.size+1) 1 (.string y2)
 have f2_1_1:=bfv g2 (w.heap.size+1) 1
 have c2_1_2:=bcv g2 (w.heap.size+1) 2 (.string y3)
 have f2_1_2:=bfv g2 (w.heap.size+1) 2
 clear g2
 go_wp2_with fail
 refine (K2.out _ (hB.below bel)).mono ?_
 rintro e w3 ⟨rfl,g3⟩
 have B3:=bn (w:=w) bel g3
 clear g3
 go_wp2_with fail
 refine (K3.out _ (hB.below bel)).mono ?_
 rintro e w4 ⟨rfl,g4⟩
 have B4:=bn (w:=w) bel g4
 clear g4
 go_wp2
 go_ret2
 exact ⟨rfl,bel⟩
end Go.Proofs.YtbnbaokamccmjaaGreatDoor

/- vector: Through. -/
namespace Go.Proofs.YtbnbaokamccmjaaGreatDoor
open Go Go.RowKit
theorem Bk.c4 {w : World} {b : Nat} {x y z t : Value} (h : Bk w b [x,y,z,t]) : w.cell? ⟨b,0,none⟩=some x∧w.cell? ⟨b,1,none⟩=some y∧w.cell? ⟨b,2,none⟩=some z∧w.cell? ⟨b,3,none⟩=some t∧w.frozen? ⟨b,0,none⟩=false∧w.frozen? ⟨b,1,none⟩=false∧w.frozen? ⟨b,2,none⟩=false∧w.frozen? ⟨b,3,none⟩=false :=
 ⟨h.cell 0 x rfl,h.cell 1 y rfl,h.cell 2 z rfl,h.cell 3 t rfl,h.free 0,h.free 1,h.free 2,h.free 3⟩
set_option maxHeartbeats 4000000 in
theorem through_yes (a1 a2 a3 b1 b2 b3 c1 c2 c3 d1 d2 d3 e1 e2 e3 n1 n2 n3 n4 : ByteArray) (w : World) (hB : Bw w)
  (hv : ∀ W p,Bw W→p=W.heap.size→Calls Tryz.prog 105 #[.slice (some ⟨p,0,none⟩) 3 3] (W.alloc (.cells #[.string a1,.string a2,.string a3,.string b1,.string b2,.string b3,.string c1,.string c2,.string c3] 25)) fun e w'=>e=.returned (.int .i64 0)∧Below (W.alloc (.cells #[.string a1,.string a2,.string a3,.string b1,.string b2,.string b3,.string c1,.string c2,.string c3] 25)).heap.size (W.alloc (.cells #[.string a1,.string a2,.string a3,.string b1,.string b2,.string b3,.string c1,.string c2,.string c3] 25)) w')
  (h1 : ∀ w,Bw w→Calls Tryz.prog 107 #[.func (.func 108) #[] #[],.agg #[.string b1,.string b2,.string b3],.agg #[.string a1,.string a2,.string a3]] w fun e w'=>e=.returned (.agg #[.string d1,.string d2,.string d3])∧Below w.heap.size w w')
  (h2 : ∀ w,Bw w→Calls Tryz.prog 107 #[.func (.func 108) #[] #[],.agg #[.string c1,.string c2,.string c3],.agg #[.string a1,.string a2,.string a3]] w fun e w'=>e=.returned (.agg #[.string e1,.string e2,.string e3])∧Below w.heap.size w w')
  (h3 : ∀ w,Bw w→Calls Tryz.prog 106 #[.agg #[.string d1,.string d2,.string d3],.agg #[.string e1,.string e2,.string e3]] w fun e w'=>e=.returned (.agg #[.string n1,.string n2,.string n3])∧Below w.heap.size w w')
  (h4 : ∀ w,Bw w→Calls Tryz.prog 109 #[.agg #[.string n1,.string n2,.string n3],.agg #[.string a1,.string a2,.string a3]] w fun e w'=>e=.returned (.string n4)∧Below w.heap.size w w')
  (h5 : ∀ w,Bw w→Calls Tryz.prog 110 #[.agg #[.string n1,.string n2,.string n3,.string n4]] w fun e w'=>e=.returned (.int .i64 0)∧Below w.heap.size w w') :
  Calls Tryz.prog 74 #[.agg #[.string a1,.string a2,.string a3],.agg #[.string b1,.string b2,.string b3],.agg #[.string c1,.string c2,.string c3]] w fun e w'=>e=.returned (.tuple #[.agg #[.string n1,.string n2,.string n3,.string n4],.int .i64 0])∧Below w.heap.size w w':=by
 have HV:=Lib.hid hv
 have H1:=Lib.hid h1
 have H2:=Lib.hid h2
 have H3:=Lib.hid h3
 have H4:=Lib.hid h4
 have H5:=Lib.hid h5
 clear hv h1 h2 h3 h4 h5
 go_enter Tryz.func74,Tryz.ntmps74
 go_wp2_with fail
 refine (HV.out _ _ (hB.below bel) (by simp)).mono ?_
 rintro e w1 ⟨rfl,g1⟩
 have HA : Hid (Bk w1 w.heap.size [.string a1,.string a2,.string a3]):=Lib.hid (Bk.below bkk g1)
 have HBb : Hid (Bk w1 (w.heap.size+1) [.string b1,.string b2,.string b3]):=Lib.hid (Bk.below bkk g1)
 have HCc : Hid (Bk w1 (w.heap.size+1+1) [.string c1,.string c2,.string c3]):=Lib.hid (Bk.below bkk g1)
 have HR : Hid (Bk w1 (w.heap.size+1+1+1) [.string ⟨#[]⟩,.string ⟨#[]⟩,.string ⟨#[]⟩,.string ⟨#[]⟩]):=Lib.hid (Bk.below bkk g1)
 have B1:=bn (w:=w) bel g1
 clear g1
 go_upto_region 4 with fail
 go_cut [9] (fun s9 wx=>∃ p : Nat,s9=.pointer (some ⟨p,0,none⟩)∧w.heap.size+3<p∧Hid (Bk wx p [.string n1,.string n2,.string n3])∧Below w1.heap.size w1 wx)
 case first =>
  have hzR:=HR.out.lt
  obtain ⟨x1,x2,x3, -, -, -⟩:=HA.out.c3
  obtain ⟨y1,y2,y3, -, -, -⟩:=HBb.out.c3
  obtain ⟨z1,z2,z3, -, -, -⟩:=HCc.out.c3
  go_region_held3 (fun w'=>w'.cell? ⟨w.heap.size,0,none⟩=some (.string a1)∧w'.cell? ⟨w.heap.size,1,none⟩=some (.string a2)∧w'.cell? ⟨w.heap.size,2,none⟩=some (.string a3)∧w'.cell? ⟨w.heap.size+1,0,none⟩=some (.string b1)∧w'.cell? ⟨w.heap.size+1,1,none⟩=some (.string b2)∧w'.cell? ⟨w.heap.size+1,2,none⟩=some (.string b3)∧w'.cell? ⟨w.heap.size+1+1,0,none⟩=some (.string c1)∧w'.cell? ⟨w.heap.size+1+1,1,none⟩=some (.string c2)∧w'.cell? ⟨w.heap.size+1+1,2,none⟩=some (.string c3)∧Below w1.heap.size w1 w')
   ((refine (fun hb=>⟨bc hb x1,bc hb x2,bc hb x3,bc hb y1,bc hb y2,bc hb y3,bc hb z1,bc hb z2,bc hb z3,hb⟩) ?_; go_split_ands; repeat (first | with_reducible assumption | (with_reducible exact bd (br _)) | (with_reducible exact br _) | (with_reducible refine bn ?_ g) | (with_reducible refine ba ?_) | (with_reducible refine bd ?_) | (refine bs ?_ ?_; rotate_left; ((try simp)<;>omega)))))
   (first | (go_at_call_of 107 (Value.agg #[.string b1,.string b2,.string b3]); refine (H1.out _ (hB.below (bn B1 (by go_split_ands; assumption)))).mono ?_; rintro e wx1 ⟨rfl,g⟩; have BX : Below w1.heap.size w1 wx1:=bn (by go_split_ands; assumption) g; have hzx:=BX.size; (first | (with_reducible have q:=Bk.below q g) | (with_reducible have q:=((bk_new _ #[.string ⟨#[]⟩,.string ⟨#[]⟩,.string ⟨#[]⟩] 25).drew).below g) | (with_reducible have q:=(bk_new _ #[.string ⟨#[]⟩,.string ⟨#[]⟩,.string ⟨#[]⟩] 25).below g) | skip)) | (go_at_call_of 107 (Value.agg #[.string c1,.string c2,.string c3]); refine (H2.out _ (hB.below (bn B1 (by go_split_ands; assumption)))).mono ?_; rintro e wx1 ⟨rfl,g⟩; have BX : Below w1.heap.size w1 wx1:=bn (by go_split_ands; assumption) g; have hzx:=BX.size; (first | (with_reducible have q:=Bk.below q g) | (with_reducible have q:=((bk_new _ #[.string ⟨#[]⟩,.string ⟨#[]⟩,.string ⟨#[]⟩] 25).drew).below g) | (with_reducible have q:=(bk_new _ #[.string ⟨#[]⟩,.string ⟨#[]⟩,.string ⟨#[]⟩] 25).below g) | skip)) | (go_at_call 106; refine (H3.out _ (hB.below (bn B1 (by go_split_ands; assumption)))).mono ?_; rintro e wx1 ⟨rfl,g⟩; have BX : Below w1.heap.size w1 wx1:=bn (by go_split_ands; assumption) g; have hzx:=BX.size; (first | (with_reducible have q:=Bk.below q g) | (with_reducible have q:=((bk_new _ #[.string ⟨#[]⟩,.string ⟨#[]⟩,.string ⟨#[]⟩] 25).drew).below g) | (with_reducible have q:=(bk_new _ #[.string ⟨#[]⟩,.string ⟨#[]⟩,.string ⟨#[]⟩] 25).below g) | skip); (try obtain ⟨o0,o1,o2,f0,f1,f2⟩:=q.c3); (try have hq:=q.lt)))
  all_goals
   go_split_ands
   go_wp2_with fail
   go_meet
   first
    | exact ⟨_,rfl,by omega,Lib.hid (bk_at rfl),by with_reducible assumption⟩
    | exact ⟨_,rfl,by omega,Lib.hid (((q.set 0 (by simp) _).set 1 (by simp) _).set 2 (by simp) _),by with_reducible assumption⟩
 case rest =>
  obtain ⟨p,rfl,hp,HN,BC⟩:=hcut
  have HA2:=Lib.hid (HA.out.below BC)
  have HR2:=Lib.hid (HR.out.below BC)
  have Bc : Below w.heap.size w wc:=bn B1 BC
  clear BC HA HBb HCc HR B1
  go_upto_region 5 with fail
  go_cut [10] (fun s10 wx=>∃ p2 : Nat,s10=.pointer (some ⟨p2,0,none⟩)∧w.heap.size+3<p2∧Hid (Bk wx p2 [.string n1,.string n2,.string n3,.string n4])∧Below wc.heap.size wc wx)
  case first =>
   have hzR:=HR2.out.lt
   obtain ⟨x1,x2,x3, -, -, -⟩:=HA2.out.c3
   obtain ⟨y1,y2,y3, -, -, -⟩:=HN.out.c3
   go_region_held3 (fun w'=>w'.cell? ⟨w.heap.size,0,none⟩=some (.string a1)∧w'.cell? ⟨w.heap.size,1,none⟩=some (.string a2)∧w'.cell? ⟨w.heap.size,2,none⟩=some (.string a3)∧w'.cell? ⟨p,0,none⟩=some (.string n1)∧w'.cell? ⟨p,1,none⟩=some (.string n2)∧w'.cell? ⟨p,2,none⟩=some (.string n3)∧Below wc.heap.size wc w')
    ((refine (fun hb=>⟨bc hb x1,bc hb x2,bc hb x3,bc hb y1,bc hb y2,bc hb y3,hb⟩) ?_; go_split_ands; repeat (first | with_reducible assumption | (with_reducible exact bd (br _)) | (with_reducible exact br _) | (with_reducible refine bn ?_ g) | (with_reducible refine ba ?_) | (with_reducible refine bd ?_) | (refine bs ?_ ?_; rotate_left; ((try simp)<;>omega)))))
    (first | (go_at_call 109; refine (H4.out _ (hB.below (bn Bc (by go_split_ands; assumption)))).mono ?_; rintro e wx1 ⟨rfl,g⟩; have BX : Below wc.heap.size wc wx1:=bn (by go_split_ands; assumption) g; have hzx:=BX.size; (first | (with_reducible have q:=Bk.below q g) | (with_reducible have q:=((bk_new _ #[.string ⟨#[]⟩,.string ⟨#[]⟩,.string ⟨#[]⟩,.string ⟨#[]⟩] 104).drew).below g) | (with_reducible have q:=(bk_new _ #[.string ⟨#[]⟩,.string ⟨#[]⟩,.string ⟨#[]⟩,.string ⟨#[]⟩] 104).below g) | skip); (try obtain ⟨o0,o1,o2,o3,f0,f1,f2,f3⟩:=q.c4); (try have hq:=q.lt)))
   all_goals
    go_split_ands
    go_wp2_with fail
    go_meet
    first
     | exact ⟨_,rfl,by omega,Lib.hid (bk_at rfl),by with_reducible assumption⟩
     | exact ⟨_,rfl,by omega,Lib.hid ((((q.set 0 (by simp) _).set 1 (by simp) _).set 2 (by simp) _).set 3 (by simp) _),by with_reducible assumption⟩
  case rest =>
   rename_i wd
   obtain ⟨p2,rfl,hp2,HP,BD⟩:=hcut
   have HR3:=Lib.hid (HR2.out.below BD)
   have Bd:=bn Bc BD
   clear BD HA2 HR2 HN Bc
   obtain ⟨o0,o1,o2,o3, -, -, -, -⟩:=HP.out.c4
   go_wp2_with fail
   refine (H5.out _ (hB.below Bd)).mono ?_
   rintro e w5 ⟨rfl,g5⟩
   obtain ⟨j0,j1,j2,j3,k0,k1,k2,k3⟩:=(HP.out.below g5).c4
   obtain ⟨q0,q1,q2,q3,f0,f1,f2,f3⟩:=(HR3.out.below g5).c4
   have B5:=bn Bd g5
   clear g5 HP HR3 Bd o0 o1 o2 o3
   go_wp2
   refine bodyPost_ret (v:=.tuple #[.agg #[.string n1,.string n2,.string n3,.string n4],.int .i64 0]) (by simp [results,Tryz.results74,go_sem, *]) rfl ⟨(by first | rfl | rw [hI]),bel⟩
set_option maxHeartbeats 4000000 in
theorem through_no (a1 a2 a3 b1 b2 b3 c1 c2 c3 d1 d2 d3 e1 e2 e3 n1 n2 n3 n4 : ByteArray) (w : World) (hB : Bw w)
  (hv : ∀ W p,Bw W→p=W.heap.size→Calls Tryz.prog 105 #[.slice (some ⟨p,0,none⟩) 3 3] (W.alloc (.cells #[.string a1,.string a2,.string a3,.string b1,.string b2,.string b3,.string c1,.string c2,.string c3] 25)) fun e w'=>e=.returned (.int .i64 0)∧Below (W.alloc (.cells #[.string a1,.string a2,.string a3,.string b1,.string b2,.string b3,.string c1,.string c2,.string c3] 25)).heap.size (W.alloc (.cells #[.string a1,.string a2,.string a3,.string b1,.string b2,.string b3,.string c1,.string c2,.string c3] 25)) w')
  (h1 : ∀ w,Bw w→Calls Tryz.prog 107 #[.func (.func 108) #[] #[],.agg #[.string b1,.string b2,.string b3],.agg #[.string a1,.string a2,.string a3]] w fun e w'=>e=.returned (.agg #[.string d1,.string d2,.string d3])∧Below w.heap.size w w')
  (h2 : ∀ w,Bw w→Calls Tryz.prog 107 #[.func (.func 108) #[] #[],.agg #[.string c1,.string c2,.string c3],.agg #[.string a1,.string a2,.string a3]] w fun e w'=>e=.returned (.agg #[.string e1,.string e2,.string e3])∧Below w.heap.size w w')
  (h3 : ∀ w,Bw w→Calls Tryz.prog 106 #[.agg #[.string d1,.string d2,.string d3],.agg #[.string e1,.string e2,.string e3]] w fun e w'=>e=.returned (.agg #[.string n1,.string n2,.string n3])∧Below w.heap.size w w')
  (h4 : ∀ w,Bw w→Calls Tryz.prog 109 #[.agg #[.string n1,.string n2,.string n3],.agg #[.string a1,.string a2,.string a3]] w fun e w'=>e=.returned (.string n4)∧Below w.heap.size w w')
  (h5 : ∀ w,Bw w→Calls Tryz.prog 110 #[.agg #[.string n1,.string n2,.string n3,.string n4]] w fun e w'=>e=.returned (.int .i64 1)∧Below w.heap.size w w') :
  Calls Tryz.prog 74 #[.agg #[.string a1,.string a2,.string a3],.agg #[.string b1,.string b2,.string b3],.agg #[.string c1,.string c2,.string c3]] w fun e w'=>e=.returned (.tuple #[.agg #[.string ⟨#[]⟩,.string ⟨#[]⟩,.string ⟨#[]⟩,.string ⟨#[]⟩],.int .i64 16])∧Below w.heap.size w w':=by
 have HV:=Lib.hid hv
 have H1:=Lib.hid h1
 have H2:=Lib.hid h2
 have H3:=Lib.hid h3
 have H4:=Lib.hid h4
 have H5:=Lib.hid h5
 clear hv h1 h2 h3 h4 h5
 go_enter Tryz.func74,Tryz.ntmps74
 go_wp2_with fail
 refine (HV.out _ _ (hB.below bel) (by simp)).mono ?_
 rintro e w1 ⟨rfl,g1⟩
 have HA : Hid (Bk w1 w.heap.size [.string a1,.string a2,.string a3]):=Lib.hid (Bk.below bkk g1)
 have HBb : Hid (Bk w1 (w.heap.size+1) [.string b1,.string b2,.string b3]):=Lib.hid (Bk.below bkk g1)
 have HCc : Hid (Bk w1 (w.heap.size+1+1) [.string c1,.string c2,.string c3]):=Lib.hid (Bk.below bkk g1)
 have HR : Hid (Bk w1 (w.heap.size+1+1+1) [.string ⟨#[]⟩,.string ⟨#[]⟩,.string ⟨#[]⟩,.string ⟨#[]⟩]):=Lib.hid (Bk.below bkk g1)
 have B1:=bn (w:=w) bel g1
 clear g1
 go_upto_region 4 with fail
 go_cut [9] (fun s9 wx=>∃ p : Nat,s9=.pointer (some ⟨p,0,none⟩)∧w.heap.size+3<p∧Hid (Bk wx p [.string n1,.string n2,.string n3])∧Below w1.heap.size w1 wx)
 case first =>
  have hzR:=HR.out.lt
  obtain ⟨x1,x2,x3, -, -, -⟩:=HA.out.c3
  obtain ⟨y1,y2,y3, -, -, -⟩:=HBb.out.c3
  obtain ⟨z1,z2,z3, -, -, -⟩:=HCc.out.c3
  go_region_held3 (fun w'=>w'.cell? ⟨w.heap.size,0,none⟩=some (.string a1)∧w'.cell? ⟨w.heap.size,1,none⟩=some (.string a2)∧w'.cell? ⟨w.heap.size,2,none⟩=some (.string a3)∧w'.cell? ⟨w.heap.size+1,0,none⟩=some (.string b1)∧w'.cell? ⟨w.heap.size+1,1,none⟩=some (.string b2)∧w'.cell? ⟨w.heap.size+1,2,none⟩=some (.string b3)∧w'.cell? ⟨w.heap.size+1+1,0,none⟩=some (.string c1)∧w'.cell? ⟨w.heap.size+1+1,1,none⟩=some (.string c2)∧w'.cell? ⟨w.heap.size+1+1,2,none⟩=some (.string c3)∧Below w1.heap.size w1 w')
   ((refine (fun hb=>⟨bc hb x1,bc hb x2,bc hb x3,bc hb y1,bc hb y2,bc hb y3,bc hb z1,bc hb z2,bc hb z3,hb⟩) ?_; go_split_ands; repeat (first | with_reducible assumption | (with_reducible exact bd (br _)) | (with_reducible exact br _) | (with_reducible refine bn ?_ g) | (with_reducible refine ba ?_) | (with_reducible refine bd ?_) | (refine bs ?_ ?_; rotate_left; ((try simp)<;>omega)))))
   (first | (go_at_call_of 107 (Value.agg #[.string b1,.string b2,.string b3]); refine (H1.out _ (hB.below (bn B1 (by go_split_ands; assumption)))).mono ?_; rintro e wx1 ⟨rfl,g⟩; have BX : Below w1.heap.size w1 wx1:=bn (by go_split_ands; assumption) g; have hzx:=BX.size; (first | (with_reducible have q:=Bk.below q g) | (with_reducible have q:=((bk_new _ #[.string ⟨#[]⟩,.string ⟨#[]⟩,.string ⟨#[]⟩] 25).drew).below g) | (with_reducible have q:=(bk_new _ #[.string ⟨#[]⟩,.string ⟨#[]⟩,.string ⟨#[]⟩] 25).below g) | skip)) | (go_at_call_of 107 (Value.agg #[.string c1,.string c2,.string c3]); refine (H2.out _ (hB.below (bn B1 (by go_split_ands; assumption)))).mono ?_; rintro e wx1 ⟨rfl,g⟩; have BX : Below w1.heap.size w1 wx1:=bn (by go_split_ands; assumption) g; have hzx:=BX.size; (first | (with_reducible have q:=Bk.below q g) | (with_reducible have q:=((bk_new _ #[.string ⟨#[]⟩,.string ⟨#[]⟩,.string ⟨#[]⟩] 25).drew).below g) | (with_reducible have q:=(bk_new _ #[.string ⟨#[]⟩,.string ⟨#[]⟩,.string ⟨#[]⟩] 25).below g) | skip)) | (go_at_call 106; refine (H3.out _ (hB.below (bn B1 (by go_split_ands; assumption)))).mono ?_; rintro e wx1 ⟨rfl,g⟩; have BX : Below w1.heap.size w1 wx1:=bn (by go_split_ands; assumption) g; have hzx:=BX.size; (first | (with_reducible have q:=Bk.below q g) | (with_reducible have q:=((bk_new _ #[.string ⟨#[]⟩,.string ⟨#[]⟩,.string ⟨#[]⟩] 25).drew).below g) | (with_reducible have q:=(bk_new _ #[.string ⟨#[]⟩,.string ⟨#[]⟩,.string ⟨#[]⟩] 25).below g) | skip); (try obtain ⟨o0,o1,o2,f0,f1,f2⟩:=q.c3); (try have hq:=q.lt)))
  all_goals
   go_split_ands
   go_wp2_with fail
   go_meet
   first
    | exact ⟨_,rfl,by omega,Lib.hid (bk_at rfl),by with_reducible assumption⟩
    | exact ⟨_,rfl,by omega,Lib.hid (((q.set 0 (by simp) _).set 1 (by simp) _).set 2 (by simp) _),by with_reducible assumption⟩
 case rest =>
  obtain ⟨p,rfl,hp,HN,BC⟩:=hcut
  have HA2:=Lib.hid (HA.out.below BC)
  have HR2:=Lib.hid (HR.out.below BC)
  have Bc : Below w.heap.size w wc:=bn B1 BC
  clear BC HA HBb HCc HR B1
  go_upto_region 5 with fail
  go_cut [10] (fun s10 wx=>∃ p2 : Nat,s10=.pointer (some ⟨p2,0,none⟩)∧w.heap.size+3<p2∧Hid (Bk wx p2 [.string n1,.string n2,.string n3,.string n4])∧Below wc.heap.size wc wx)
  case first =>
   have hzR:=HR2.out.lt
   obtain ⟨x1,x2,x3, -, -, -⟩:=HA2.out.c3
   obtain ⟨y1,y2,y3, -, -, -⟩:=HN.out.c3
   go_region_held3 (fun w'=>w'.cell? ⟨w.heap.size,0,none⟩=some (.string a1)∧w'.cell? ⟨w.heap.size,1,none⟩=some (.string a2)∧w'.cell? ⟨w.heap.size,2,none⟩=some (.string a3)∧w'.cell? ⟨p,0,none⟩=some (.string n1)∧w'.cell? ⟨p,1,none⟩=some (.string n2)∧w'.cell? ⟨p,2,none⟩=some (.string n3)∧Below wc.heap.size wc w')
    ((refine (fun hb=>⟨bc hb x1,bc hb x2,bc hb x3,bc hb y1,bc hb y2,bc hb y3,hb⟩) ?_; go_split_ands; repeat (first | with_reducible assumption | (with_reducible exact bd (br _)) | (with_reducible exact br _) | (with_reducible refine bn ?_ g) | (with_reducible refine ba ?_) | (with_reducible refine bd ?_) | (refine bs ?_ ?_; rotate_left; ((try simp)<;>omega)))))
    (first | (go_at_call 109; refine (H4.out _ (hB.below (bn Bc (by go_split_ands; assumption)))).mono ?_; rintro e wx1 ⟨rfl,g⟩; have BX : Below wc.heap.size wc wx1:=bn (by go_split_ands; assumption) g; have hzx:=BX.size; (first | (with_reducible have q:=Bk.below q g) | (with_reducible have q:=((bk_new _ #[.string ⟨#[]⟩,.string ⟨#[]⟩,.string ⟨#[]⟩,.string ⟨#[]⟩] 104).drew).below g) | (with_reducible have q:=(bk_new _ #[.string ⟨#[]⟩,.string ⟨#[]⟩,.string ⟨#[]⟩,.string ⟨#[]⟩] 104).below g) | skip); (try obtain ⟨o0,o1,o2,o3,f0,f1,f2,f3⟩:=q.c4); (try have hq:=q.lt)))
   all_goals
    go_split_ands
    go_wp2_with fail
    go_meet
    first
     | exact ⟨_,rfl,by omega,Lib.hid (bk_at rfl),by with_reducible assumption⟩
     | exact ⟨_,rfl,by omega,Lib.hid ((((q.set 0 (by simp) _).set 1 (by simp) _).set 2 (by simp) _).set 3 (by simp) _),by with_reducible assumption⟩
  case rest =>
   rename_i wd
   obtain ⟨p2,rfl,hp2,HP,BD⟩:=hcut
   have HR3:=Lib.hid (HR2.out.below BD)
   have Bd:=bn Bc BD
   clear BD HA2 HR2 HN Bc
   obtain ⟨o0,o1,o2,o3, -, -, -, -⟩:=HP.out.c4
   go_wp2_with fail
   refine (H5.out _ (hB.below Bd)).mono ?_
   rintro e w5 ⟨rfl,g5⟩
   obtain ⟨j0,j1,j2,j3,k0,k1,k2,k3⟩:=(HP.out.below g5).c4
   obtain ⟨q0,q1,q2,q3,f0,f1,f2,f3⟩:=(HR3.out.below g5).c4
   have B5:=bn Bd g5
   clear g5 HP HR3 Bd o0 o1 o2 o3
   go_wp2
   refine bodyPost_ret (v:=.tuple #[.agg #[.string ⟨#[]⟩,.string ⟨#[]⟩,.string ⟨#[]⟩,.string ⟨#[]⟩],.int .i64 16]) (by simp [results,Tryz.results74,go_sem, *]) rfl ⟨(by first | rfl | rw [hI]),bel⟩
def thrN (a b c : V3) : V3:=(b.sub a).cross (c.sub a)
def thrP (a b c : V3) : Pl:=⟨thrN a b c,(thrN a b c).dot a⟩
theorem thrN_le {a b c : V3} {k n : Nat} (ha : a.le k) (hb : b.le k) (hc : c.le k) (h : 8 * k+5≤n) : (thrN a b c).le n :=
 V3.le_cross (V3.le_sub hb ha (Nat.le_refl _)) (V3.le_sub hc ha (Nat.le_refl _)) (by omega)
theorem thrP_le {a b c : V3} {k n : Nat} (ha : a.le k) (hb : b.le k) (hc : c.le k) (h : 27 * k+17≤n) : (thrP a b c).le n :=
 ⟨thrN_le ha hb hc (by omega),rz_dot (thrN_le ha hb hc (Nat.le_refl _)) ha (by omega)⟩
def thrV (a b c : V3) : Value:=if thrN a b c=V3.zero then .agg #[.string ⟨#[]⟩,.string ⟨#[]⟩,.string ⟨#[]⟩,.string ⟨#[]⟩] else PV (thrP a b c)
def thrE (a b c : V3) : Int:=if thrN a b c=V3.zero then 16 else 0
theorem vThrough_walk (a b c : V3) (ha : a.le 100000) (hb : b.le 100000) (hc : c.le 100000) (w : World) (hB : Bw w) :
  Calls Tryz.prog 74 #[VV a,VV b,VV c] w fun e w'=>e=.returned (.tuple #[thrV a b c,.int .i64 (thrE a b c)])∧Below w.heap.size w w':=by
 have hn:=thrN_le (n:=900000) ha hb hc (by omega)
 have hs1:=V3.le_sub hb ha (n:=200001) (by omega)
 have hs2:=V3.le_sub hc ha (n:=200001) (by omega)
 have hp:=thrP_le (n:=3000000) ha hb hc (by omega)
 have hv : ∀ W p,Bw W→p=W.heap.size→Calls Tryz.prog 105 #[.slice (some ⟨p,0,none⟩) 3 3] (W.alloc (.cells #[.string (rtx a.x),.string (rtx a.y),.string (rtx a.z),.string (rtx b.x),.string (rtx b.y),.string (rtx b.z),.string (rtx c.x),.string (rtx c.y),.string (rtx c.z)] 25)) fun e w'=>e=.returned (.int .i64 0)∧Below (W.alloc (.cells #[.string (rtx a.x),.string (rtx a.y),.string (rtx a.z),.string (rtx b.x),.string (rtx b.y),.string (rtx b.z),.string (rtx c.x),.string (rtx c.y),.string (rtx c.z)] 25)).heap.size (W.alloc (.cells #[.string (rtx a.x),.string (rtx a.y),.string (rtx a.z),.string (rtx b.x),.string (rtx b.y),.string (rtx b.z),.string (rtx c.x),.string (rtx c.y),.string (rtx c.z)] 25)) w':=by
  intro W p hW hp
  have hc0 : chk [txv a,txv b,txv c]=0:=chk_yes (by simp [isVec_txv])
  rw [← hc0]
  refine vcheck_walk _ [txv a,txv b,txv c] _ (hW.below (ba (br W))) (vs_lit W _ _ 3 p rfl rfl (by simp) hp) (fun s hs=>?_)
  simp at hs
  rcases hs with rfl | rfl | rfl
  ·have:=txv_le ha; exact ⟨by have:=this.1; omega,by have:=this.2.1; omega,by have:=this.2.2; omega⟩
  ·have:=txv_le hb; exact ⟨by have:=this.1; omega,by have:=this.2.1; omega,by have:=this.2.2; omega⟩
  ·have:=txv_le hc; exact ⟨by have:=this.1; omega,by have:=this.2.1; omega,by have:=this.2.2; omega⟩
 have h1:=fun w hB=>vzip_sub b a (hb.mono (by omega)) (ha.mono (by omega)) w hB
 have h2:=fun w hB=>vzip_sub c a (hc.mono (by omega)) (ha.mono (by omega)) w hB
 have h3:=fun w hB=>vcross_walk (b.sub a) (c.sub a) (hs1.mono (by omega)) (hs2.mono (by omega)) w hB
 have h4:=fun w hB=>vdot_walk (thrN a b c) a (hn.mono (by omega)) (ha.mono (by omega)) w hB
 have h5:=fun w hB=>vplane_walk (thrP a b c) ⟨hp.1.mono (by omega),by have:=hp.2; omega⟩ w hB
 unfold thrV thrE
 by_cases h0 : thrN a b c=V3.zero
 ·rw [if_pos h0,if_pos h0]
  have : plc (thrP a b c).n=1:=plc_zero h0
  rw [this] at h5
  exact through_no _ _ _ _ _ _ _ _ _ _ _ _ _ _ _ _ _ _ _ w hB hv h1 h2 h3 h4 h5
 ·rw [if_neg h0,if_neg h0]
  have : plc (thrP a b c).n=0:=plc_ne h0
  rw [this] at h5
  exact through_yes _ _ _ _ _ _ _ _ _ _ _ _ _ _ _ _ _ _ _ w hB hv h1 h2 h3 h4 h5
end Go.Proofs.YtbnbaokamccmjaaGreatDoor
