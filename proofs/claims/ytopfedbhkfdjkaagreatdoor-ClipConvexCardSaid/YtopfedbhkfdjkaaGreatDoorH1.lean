/- lemmas. -/
import Derived.Test.YtopfedbhkfdjkaaGreatDoorE7
import Derived.Test.YtopfedbhkfdjkaaGreatDoorE8
import Derived.Test.YtopfedbhkfdjkaaGreatDoorE9
import Derived.Maps.RangeRun
import Derived.Below
import Derived.Test.YtopfedbhkfdjkaaGreatDoorE4
import Derived.Test.YtopfedbhkfdjkaaGreatDoorEA
import Derived.Test.YtopfedbhkfdjkaaGreatDoorEB
import Derived.Test.YtopfedbhkfdjkaaGreatDoorEC
import Derived.Test.YtopfedbhkfdjkaaGreatDoorED
set_option linter.unusedVariables false
set_option linter.unusedSimpArgs false
namespace Go.Proofs.YtopfedbhkfdjkaaGreatDoor
open Go Go.RowKit
namespace V3
def cross (a b : V3) : V3:=⟨a.y * b.z - a.z * b.y,a.z * b.x - a.x * b.z,a.x * b.y - a.y * b.x⟩
end V3
theorem V3.le_cross {a b : V3} {k m n : Nat} (ha : a.le k) (hb : b.le m) (h : 2 * (k+m)+1≤n) : (a.cross b).le n :=
 ⟨rz_sub_le (rz_mul_le ha.2.1 hb.2.2 (Nat.le_refl _)) (rz_mul_le ha.2.2 hb.2.1 (Nat.le_refl _)) (by omega),
  rz_sub_le (rz_mul_le ha.2.2 hb.1 (Nat.le_refl _)) (rz_mul_le ha.1 hb.2.2 (Nat.le_refl _)) (by omega),
  rz_sub_le (rz_mul_le ha.1 hb.2.1 (Nat.le_refl _)) (rz_mul_le ha.2.1 hb.1 (Nat.le_refl _)) (by omega)⟩
end Go.Proofs.YtopfedbhkfdjkaaGreatDoor

namespace Go.Proofs.YtopfedbhkfdjkaaGreatDoor
open Go Go.RowKit
set_option maxHeartbeats 4000000 in
theorem cross_at (a0 a1 a2 b0 b1 b2 u0 u1 u2 v0 v1 v2 r0 r1 r2 : ByteArray) (w : World) (hB : Bw w)
  (hm0a : ∀ w,Bw w→Calls Tryz.prog 118 #[.string a1,.string b2] w fun e w'=>e=.returned (.string u0)∧Below w.heap.size w w')
  (hm0b : ∀ w,Bw w→Calls Tryz.prog 118 #[.string a2,.string b1] w fun e w'=>e=.returned (.string v0)∧Below w.heap.size w w')
  (hs0 : ∀ w,Bw w→Calls Tryz.prog 76 #[.string u0,.string v0] w fun e w'=>e=.returned (.string r0)∧Below w.heap.size w w')
  (hm1a : ∀ w,Bw w→Calls Tryz.prog 118 #[.string a2,.string b0] w fun e w'=>e=.returned (.string u1)∧Below w.heap.size w w')
  (hm1b : ∀ w,Bw w→Calls Tryz.prog 118 #[.string a0,.string b2] w fun e w'=>e=.returned (.string v1)∧Below w.heap.size w w')
  (hs1 : ∀ w,Bw w→Calls Tryz.prog 76 #[.string u1,.string v1] w fun e w'=>e=.returned (.string r1)∧Below w.heap.size w w')
  (hm2a : ∀ w,Bw w→Calls Tryz.prog 118 #[.string a0,.string b1] w fun e w'=>e=.returned (.string u2)∧Below w.heap.size w w')
  (hm2b : ∀ w,Bw w→Calls Tryz.prog 118 #[.string a1,.string b0] w fun e w'=>e=.returned (.string v2)∧Below w.heap.size w w')
  (hs2 : ∀ w,Bw w→Calls Tryz.prog 76 #[.string u2,.string v2] w fun e w'=>e=.returned (.string r2)∧Below w.heap.size w w') :
  Calls Tryz.prog 122 #[.agg #[.string a0,.string a1,.string a2],.agg #[.string b0,.string b1,.string b2]] w fun e w'=>e=.returned (.agg #[.string r0,.string r1,.string r2])∧Below w.heap.size w w':=by
 have Hm0a:=Lib.hid hm0a
 have Hm0b:=Lib.hid hm0b
 have Hs0:=Lib.hid hs0
 have Hm1a:=Lib.hid hm1a
 have Hm1b:=Lib.hid hm1b
 have Hs1:=Lib.hid hs1
 have Hm2a:=Lib.hid hm2a
 have Hm2b:=Lib.hid hm2b
 have Hs2:=Lib.hid hs2
 clear hm0a hm0b hs0 hm1a hm1b hs1 hm2a hm2b hs2
 have K1:=Lib.hid (fun w=>coord_exact a0 a1 a2 w)
 have K2:=Lib.hid (fun w=>coord_exact b0 b1 b2 w)
 go_enter Tryz.func122,Tryz.ntmps122
 go_upto_region 1 with fail
 go_cut [5,6] (fun s7 s8 wx=>∃ p q : Nat,s7=.pointer (some ⟨p,0,none⟩)∧s8=.pointer (some ⟨q,0,none⟩)∧w.heap.size+2<p∧w.heap.size+2<q∧Hid (Bk wx p [.string a0,.string a1,.string a2])∧Hid (Bk wx q [.string b0,.string b1,.string b2])∧Hid (Bk wx (w.heap.size+1+1) [.string ⟨#[]⟩,.string ⟨#[]⟩,.string ⟨#[]⟩])∧Below w.heap.size w wx)
 case first =>
  go_region_held3 (fun w'=>w'.cell? ⟨w.heap.size,0,none⟩=some (.string a0)∧w'.cell? ⟨w.heap.size,1,none⟩=some (.string a1)∧w'.cell? ⟨w.heap.size,2,none⟩=some (.string a2)∧w'.cell? ⟨w.heap.size+1,0,none⟩=some (.string b0)∧w'.cell? ⟨w.heap.size+1,1,none⟩=some (.string b1)∧w'.cell? ⟨w.heap.size+1,2,none⟩=some (.string b2))
   (refine ⟨?_, ?_, ?_, ?_, ?_, ?_⟩<;>first | with_reducible assumption | (go_simp; done))
   (first | (go_at_call_of 66 (Value.agg #[.string a0,.string a1,.string a2]); refine (K1.out _).mono ?_; rintro e w1 ⟨rfl,rfl⟩) | (go_at_call_of 66 (Value.agg #[.string b0,.string b1,.string b2]); refine (K2.out _).mono ?_; rintro e w1 ⟨rfl,rfl⟩))
  all_goals
   go_wp2_with fail
   go_meet
   exact ⟨_,_,rfl,rfl,by omega,by omega,Lib.hid bkk,Lib.hid bkk,Lib.hid bkk,bel⟩
 case rest =>
  obtain ⟨p,q,rfl,rfl,hp,hq,HP,HQ,HR,HW⟩:=hcut
  have hpl:=HP.out.lt
  have hql:=HQ.out.lt
  have hrl:=HR.out.lt
  have HO0 : Hid (Bk (wc.alloc (.cells #[.string ⟨#[]⟩,.string ⟨#[]⟩,.string ⟨#[]⟩] 117)) wc.heap.size [.string ⟨#[]⟩,.string ⟨#[]⟩,.string ⟨#[]⟩]):=Lib.hid (bk_new _ _ _)
  have HP0:=Lib.hid (HP.out.alloc (.cells #[.string ⟨#[]⟩,.string ⟨#[]⟩,.string ⟨#[]⟩] 117))
  have HQ0:=Lib.hid (HQ.out.alloc (.cells #[.string ⟨#[]⟩,.string ⟨#[]⟩,.string ⟨#[]⟩] 117))
  have HR0:=Lib.hid (HR.out.alloc (.cells #[.string ⟨#[]⟩,.string ⟨#[]⟩,.string ⟨#[]⟩] 117))
  have B0 : Below w.heap.size w (wc.alloc (.cells #[.string ⟨#[]⟩,.string ⟨#[]⟩,.string ⟨#[]⟩] 117)):=ba HW
  clear HP HQ HR HW
  go_wp2
  refine wp_loop_rounds 4 ?_
  rw [rounds_succ]
  obtain ⟨x0,x1,x2, -, -, -⟩:=HP0.out.c3
  obtain ⟨y0,y1,y2, -, -, -⟩:=HQ0.out.c3
  go_wp2
  go_region_held3 (fun w'=>w'.cell? ⟨p,1,none⟩=some (.string a1)∧w'.cell? ⟨p,2,none⟩=some (.string a2)∧w'.cell? ⟨q,1,none⟩=some (.string b1)∧w'.cell? ⟨q,2,none⟩=some (.string b2)∧Below w.heap.size w w')
   ((go_split_ands; refine ⟨?_, ?_, ?_, ?_, ?_⟩<;>first | with_reducible assumption | ((with_reducible refine bc g ?_); with_reducible assumption) | ((with_reducible refine bn ?_ g); with_reducible assumption) | ((with_reducible refine cset ?_ ?_)<;>first | with_reducible assumption | ((try simp)<;>omega)) | ((with_reducible refine bs ?_ ?_)<;>first | with_reducible assumption | ((try simp)<;>omega)) | (go_simp; done) | exact bel))
   (first | (go_at_call_of 118 (Value.string a1); refine (Hm0a.out _ (hB.below (by go_split_ands; assumption))).mono ?_; rintro e wx1 ⟨rfl,g⟩; have HOx1:=HO0.out.drew.below g; have HPx1:=HP0.out.drew.below g; have HQx1:=HQ0.out.drew.below g; have HRx1:=HR0.out.drew.below g; have Bx1 : Below w.heap.size w wx1:=bn (bd B0) g) | (go_at_call_of 118 (Value.string a2); refine (Hm0b.out _ (hB.below (by go_split_ands; assumption))).mono ?_; rintro e wx2 ⟨rfl,g⟩; have HOx2:=HOx1.below g; have HPx2:=HPx1.below g; have HQx2:=HQx1.below g; have HRx2:=HRx1.below g; have Bx2 : Below w.heap.size w wx2:=bn Bx1 g) | (go_at_call_of 76 (Value.string u0); refine (Hs0.out _ (hB.below (by go_split_ands; assumption))).mono ?_; rintro e wx3 ⟨rfl,g⟩; have HOx3:=HOx2.below g; have HPx3:=HPx2.below g; have HQx3:=HQx2.below g; have HRx3:=HRx2.below g; have Bx3 : Below w.heap.size w wx3:=bn Bx2 g; obtain ⟨o0,o1,o2,f0,f1,f2⟩:=HOx3.c3; have hzx:=HOx3.lt; clear HOx1 HOx2 HPx1 HPx2 HQx1 HQx2 HRx1 HRx2 Bx1 Bx2))
  have HO1:=Lib.hid (HOx3.set 0 (by simp) (.string r0))
  have HP1:=Lib.hid (HPx3.far (p:=⟨wc.heap.size,0,none⟩) (by dsimp only; omega) (.string r0))
  have HQ1:=Lib.hid (HQx3.far (p:=⟨wc.heap.size,0,none⟩) (by dsimp only; omega) (.string r0))
  have HR1:=Lib.hid (HRx3.far (p:=⟨wc.heap.size,0,none⟩) (by dsimp only; omega) (.string r0))
  have B1 : Below w.heap.size w (wx3.setCell ⟨wc.heap.size,0,none⟩ (.string r0)):=bs Bx3 (by dsimp only; omega)
  clear g HO0 HP0 HQ0 HR0 x0 x1 x2 y0 y1 y2 o0 o1 o2 f0 f1 f2 B0 HOx3 HPx3 HQx3 HRx3 Bx3
  go_wp2
  rw [rounds_succ]
  obtain ⟨x0,x1,x2, -, -, -⟩:=HP1.out.c3
  obtain ⟨y0,y1,y2, -, -, -⟩:=HQ1.out.c3
  go_wp2
  go_region_held3 (fun w'=>w'.cell? ⟨p,2,none⟩=some (.string a2)∧w'.cell? ⟨p,0,none⟩=some (.string a0)∧w'.cell? ⟨q,2,none⟩=some (.string b2)∧w'.cell? ⟨q,0,none⟩=some (.string b0)∧Below w.heap.size w w')
   ((go_split_ands; refine ⟨?_, ?_, ?_, ?_, ?_⟩<;>first | with_reducible assumption | ((with_reducible refine bc g ?_); with_reducible assumption) | ((with_reducible refine bn ?_ g); with_reducible assumption) | ((with_reducible refine cset ?_ ?_)<;>first | with_reducible assumption | ((try simp)<;>omega)) | ((with_reducible refine bs ?_ ?_)<;>first | with_reducible assumption | ((try simp)<;>omega)) | (go_simp; done) | exact bel))
   (first | (go_at_call_of 118 (Value.string a2); refine (Hm1a.out _ (hB.below (by go_split_ands; assumption))).mono ?_; rintro e wx1 ⟨rfl,g⟩; have HOx1:=HO1.out.drew.below g; have HPx1:=HP1.out.drew.below g; have HQx1:=HQ1.out.drew.below g; have HRx1:=HR1.out.drew.below g; have Bx1 : Below w.heap.size w wx1:=bn (bd B1) g) | (go_at_call_of 118 (Value.string a0); refine (Hm1b.out _ (hB.below (by go_split_ands; assumption))).mono ?_; rintro e wx2 ⟨rfl,g⟩; have HOx2:=HOx1.below g; have HPx2:=HPx1.below g; have HQx2:=HQx1.below g; have HRx2:=HRx1.below g; have Bx2 : Below w.heap.size w wx2:=bn Bx1 g) | (go_at_call_of 76 (Value.string u1); refine (Hs1.out _ (hB.below (by go_split_ands; assumption))).mono ?_; rintro e wx3 ⟨rfl,g⟩; have HOx3:=HOx2.below g; have HPx3:=HPx2.below g; have HQx3:=HQx2.below g; have HRx3:=HRx2.below g; have Bx3 : Below w.heap.size w wx3:=bn Bx2 g; obtain ⟨o0,o1,o2,f0,f1,f2⟩:=HOx3.c3; have hzx:=HOx3.lt; clear HOx1 HOx2 HPx1 HPx2 HQx1 HQx2 HRx1 HRx2 Bx1 Bx2))
  have HO2:=Lib.hid (HOx3.set 1 (by simp) (.string r1))
  have HP2:=Lib.hid (HPx3.far (p:=⟨wc.heap.size,1,none⟩) (by dsimp only; omega) (.string r1))
  have HQ2:=Lib.hid (HQx3.far (p:=⟨wc.heap.size,1,none⟩) (by dsimp only; omega) (.string r1))
  have HR2:=Lib.hid (HRx3.far (p:=⟨wc.heap.size,1,none⟩) (by dsimp only; omega) (.string r1))
  have B2 : Below w.heap.size w (wx3.setCell ⟨wc.heap.size,1,none⟩ (.string r1)):=bs Bx3 (by dsimp only; omega)
  clear g HO1 HP1 HQ1 HR1 x0 x1 x2 y0 y1 y2 o0 o1 o2 f0 f1 f2 B1 HOx3 HPx3 HQx3 HRx3 Bx3
  go_wp2
  rw [rounds_succ]
  obtain ⟨x0,x1,x2, -, -, -⟩:=HP2.out.c3
  obtain ⟨y0,y1,y2, -, -, -⟩:=HQ2.out.c3
  go_wp2
  go_region_held3 (fun w'=>w'.cell? ⟨p,0,none⟩=some (.string a0)∧w'.cell? ⟨p,1,none⟩=some (.string a1)∧w'.cell? ⟨q,0,none⟩=some (.string b0)∧w'.cell? ⟨q,1,none⟩=some (.string b1)∧Below w.heap.size w w')
   ((go_split_ands; refine ⟨?_, ?_, ?_, ?_, ?_⟩<;>first | with_reducible assumption | ((with_reducible refine bc g ?_); with_reducible assumption) | ((with_reducible refine bn ?_ g); with_reducible assumption) | ((with_reducible refine cset ?_ ?_)<;>first | with_reducible assumption | ((try simp)<;>omega)) | ((with_reducible refine bs ?_ ?_)<;>first | with_reducible assumption | ((try simp)<;>omega)) | (go_simp; done) | exact bel))
   (first | (go_at_call_of 118 (Value.string a0); refine (Hm2a.out _ (hB.below (by go_split_ands; assumption))).mono ?_; rintro e wx1 ⟨rfl,g⟩; have HOx1:=HO2.out.drew.below g; have HPx1:=HP2.out.drew.below g; have HQx1:=HQ2.out.drew.below g; have HRx1:=HR2.out.drew.below g; have Bx1 : Below w.heap.size w wx1:=bn (bd B2) g) | (go_at_call_of 118 (Value.string a1); refine (Hm2b.out _ (hB.below (by go_split_ands; assumption))).mono ?_; rintro e wx2 ⟨rfl,g⟩; have HOx2:=HOx1.below g; have HPx2:=HPx1.below g; have HQx2:=HQx1.below g; have HRx2:=HRx1.below g; have Bx2 : Below w.heap.size w wx2:=bn Bx1 g) | (go_at_call_of 76 (Value.string u2); refine (Hs2.out _ (hB.below (by go_split_ands; assumption))).mono ?_; rintro e wx3 ⟨rfl,g⟩; have HOx3:=HOx2.below g; have HPx3:=HPx2.below g; have HQx3:=HQx2.below g; have HRx3:=HRx2.below g; have Bx3 : Below w.heap.size w wx3:=bn Bx2 g; obtain ⟨o0,o1,o2,f0,f1,f2⟩:=HOx3.c3; have hzx:=HOx3.lt; clear HOx1 HOx2 HPx1 HPx2 HQx1 HQx2 HRx1 HRx2 Bx1 Bx2))
  have HO3:=Lib.hid (HOx3.set 2 (by simp) (.string r2))
  have HP3:=Lib.hid (HPx3.far (p:=⟨wc.heap.size,2,none⟩) (by dsimp only; omega) (.string r2))
  have HQ3:=Lib.hid (HQx3.far (p:=⟨wc.heap.size,2,none⟩) (by dsimp only; omega) (.string r2))
  have HR3:=Lib.hid (HRx3.far (p:=⟨wc.heap.size,2,none⟩) (by dsimp only; omega) (.string r2))
  have B3 : Below w.heap.size w (wx3.setCell ⟨wc.heap.size,2,none⟩ (.string r2)):=bs Bx3 (by dsimp only; omega)
  clear g HO2 HP2 HQ2 HR2 x0 x1 x2 y0 y1 y2 o0 o1 o2 f0 f1 f2 B2 HOx3 HPx3 HQx3 HRx3 Bx3
  go_wp2
  rw [rounds_succ]
  obtain ⟨o0,o1,o2, -, -, -⟩:=HO3.out.c3
  go_wp2_with fail
  refine (vof_walk _ _ _ _).mono ?_
  rintro e w9 ⟨rfl,g9⟩
  obtain ⟨q0,q1,q2,f0,f1,f2⟩:=(HR3.out.below g9).c3
  have hz9 : w.heap.size+2<w9.heap.size:=hzs g9
  have B9:=bn (w:=w) bel g9
  clear g9 HO3 HP3 HQ3 HR3 o0 o1 o2
  go_wp2
  refine bodyPost_ret (v:=.agg #[.string r0,.string r1,.string r2]) (by simp [results,Tryz.results122,go_sem, *]) rfl ⟨(by first | rfl | rw [hI]),bel⟩
theorem vcross_walk (a b : V3) (ha : a.le 2000000) (hb : b.le 2000000) (w : World) (hB : Bw w) :
  Calls Tryz.prog 122 #[VV a,VV b] w fun e w'=>e=.returned (VV (a.cross b))∧Below w.heap.size w w':=by
 have ha':=ha.mono (show 2000000≤10000000 by omega)
 have hb':=hb.mono (show 2000000≤10000000 by omega)
 obtain ⟨x1,x2,x3⟩:=ha
 obtain ⟨y1,y2,y3⟩:=hb
 refine cross_at (rtx a.x) (rtx a.y) (rtx a.z) (rtx b.x) (rtx b.y) (rtx b.z) _ _ _ _ _ _ _ _ _ w hB
  (fun w hB=>vmul_walk a.y b.z ha'.2.1 hb'.2.2 w hB) (fun w hB=>vmul_walk a.z b.y ha'.2.2 hb'.2.1 w hB) (fun w hB=>vsub_walk _ _ ?_ ?_ w hB)
  (fun w hB=>vmul_walk a.z b.x ha'.2.2 hb'.1 w hB) (fun w hB=>vmul_walk a.x b.z ha'.1 hb'.2.2 w hB) (fun w hB=>vsub_walk _ _ ?_ ?_ w hB)
  (fun w hB=>vmul_walk a.x b.y ha'.1 hb'.2.1 w hB) (fun w hB=>vmul_walk a.y b.x ha'.2.1 hb'.1 w hB) (fun w hB=>vsub_walk _ _ ?_ ?_ w hB)
 all_goals exact rz_mul_le (by assumption) (by assumption) (by omega)
end Go.Proofs.YtopfedbhkfdjkaaGreatDoor

namespace Go.Proofs.YtopfedbhkfdjkaaGreatDoor
open Go Go.RowKit
set_option maxHeartbeats 4000000 in
theorem through_yes (a1 a2 a3 b1 b2 b3 c1 c2 c3 d1 d2 d3 e1 e2 e3 n1 n2 n3 n4 : ByteArray) (w : World) (hB : Bw w)
  (hv : ∀ W p,Bw W→p=W.heap.size→Calls Tryz.prog 71 #[.slice (some ⟨p,0,none⟩) 3 3] (W.alloc (.cells #[.string a1,.string a2,.string a3,.string b1,.string b2,.string b3,.string c1,.string c2,.string c3] 26)) fun e w'=>e=.returned (.int .i64 0)∧Below (W.alloc (.cells #[.string a1,.string a2,.string a3,.string b1,.string b2,.string b3,.string c1,.string c2,.string c3] 26)).heap.size (W.alloc (.cells #[.string a1,.string a2,.string a3,.string b1,.string b2,.string b3,.string c1,.string c2,.string c3] 26)) w')
  (h1 : ∀ w,Bw w→Calls Tryz.prog 117 #[.func (.func 76) #[] #[],.agg #[.string b1,.string b2,.string b3],.agg #[.string a1,.string a2,.string a3]] w fun e w'=>e=.returned (.agg #[.string d1,.string d2,.string d3])∧Below w.heap.size w w')
  (h2 : ∀ w,Bw w→Calls Tryz.prog 117 #[.func (.func 76) #[] #[],.agg #[.string c1,.string c2,.string c3],.agg #[.string a1,.string a2,.string a3]] w fun e w'=>e=.returned (.agg #[.string e1,.string e2,.string e3])∧Below w.heap.size w w')
  (h3 : ∀ w,Bw w→Calls Tryz.prog 122 #[.agg #[.string d1,.string d2,.string d3],.agg #[.string e1,.string e2,.string e3]] w fun e w'=>e=.returned (.agg #[.string n1,.string n2,.string n3])∧Below w.heap.size w w')
  (h4 : ∀ w,Bw w→Calls Tryz.prog 72 #[.agg #[.string n1,.string n2,.string n3],.agg #[.string a1,.string a2,.string a3]] w fun e w'=>e=.returned (.string n4)∧Below w.heap.size w w')
  (h5 : ∀ w,Bw w→Calls Tryz.prog 63 #[.agg #[.string n1,.string n2,.string n3,.string n4]] w fun e w'=>e=.returned (.int .i64 0)∧Below w.heap.size w w') :
  Calls Tryz.prog 77 #[.agg #[.string a1,.string a2,.string a3],.agg #[.string b1,.string b2,.string b3],.agg #[.string c1,.string c2,.string c3]] w fun e w'=>e=.returned (.tuple #[.agg #[.string n1,.string n2,.string n3,.string n4],.int .i64 0])∧Below w.heap.size w w':=by
 have HV:=Lib.hid hv
 have H1:=Lib.hid h1
 have H2:=Lib.hid h2
 have H3:=Lib.hid h3
 have H4:=Lib.hid h4
 have H5:=Lib.hid h5
 clear hv h1 h2 h3 h4 h5
 go_enter Tryz.func77,Tryz.ntmps77
 go_wp2_with fail
 refine (HV.out _ _ (hB.below bel) (by simp)).mono ?_
 rintro e w1 ⟨rfl,g1⟩
 have HA : Hid (Bk w1 w.heap.size [.string a1,.string a2,.string a3]):=Lib.hid (Bk.below bkk g1)
 have HBb : Hid (Bk w1 (w.heap.size+1) [.string b1,.string b2,.string b3]):=Lib.hid (Bk.below bkk g1)
 have HCc : Hid (Bk w1 (w.heap.size+1+1) [.string c1,.string c2,.string c3]):=Lib.hid (Bk.below bkk g1)
 have HR : Hid (Bk w1 (w.heap.size+1+1+1) [.string ⟨#[]⟩,.string ⟨#[]⟩,.string ⟨#[]⟩,.string ⟨#[]⟩]):=Lib.hid (Bk.below bkk g1)
 have B1:=bn (w:=w) bel g1
 clear g1
 go_upto_region 4 with fail
 go_cut [9] (fun s9 wx=>∃ p : Nat,s9=.pointer (some ⟨p,0,none⟩)∧w.heap.size+3<p∧Hid (Bk wx p [.string n1,.string n2,.string n3])∧Below w1.heap.size w1 wx)
 case first =>
  have hzR:=HR.out.lt
  obtain ⟨x1,x2,x3, -, -, -⟩:=HA.out.c3
  obtain ⟨y1,y2,y3, -, -, -⟩:=HBb.out.c3
  obtain ⟨z1,z2,z3, -, -, -⟩:=HCc.out.c3
  go_region_held3 (fun w'=>w'.cell? ⟨w.heap.size,0,none⟩=some (.string a1)∧w'.cell? ⟨w.heap.size,1,none⟩=some (.string a2)∧w'.cell? ⟨w.heap.size,2,none⟩=some (.string a3)∧w'.cell? ⟨w.heap.size+1,0,none⟩=some (.string b1)∧w'.cell? ⟨w.heap.size+1,1,none⟩=some (.string b2)∧w'.cell? ⟨w.heap.size+1,2,none⟩=some (.string b3)∧w'.cell? ⟨w.heap.size+1+1,0,none⟩=some (.string c1)∧w'.cell? ⟨w.heap.size+1+1,1,none⟩=some (.string c2)∧w'.cell? ⟨w.heap.size+1+1,2,none⟩=some (.string c3)∧Below w1.heap.size w1 w')
   ((refine (fun hb=>⟨bc hb x1,bc hb x2,bc hb x3,bc hb y1,bc hb y2,bc hb y3,bc hb z1,bc hb z2,bc hb z3,hb⟩) ?_; go_split_ands; repeat (first | with_reducible assumption | (with_reducible exact bd (br _)) | (with_reducible exact br _) | (with_reducible refine bn ?_ g) | (with_reducible refine ba ?_) | (with_reducible refine bd ?_) | (refine bs ?_ ?_; rotate_left; ((try simp)<;>omega)))))
   (first | (go_at_call_of 117 (Value.agg #[.string b1,.string b2,.string b3]); refine (H1.out _ (hB.below (bn B1 (by go_split_ands; assumption)))).mono ?_; rintro e wx1 ⟨rfl,g⟩; have BX : Below w1.heap.size w1 wx1:=bn (by go_split_ands; assumption) g; have hzx:=BX.size; (first | (with_reducible have q:=Bk.below q g) | (with_reducible have q:=((bk_new _ #[.string ⟨#[]⟩,.string ⟨#[]⟩,.string ⟨#[]⟩] 26).drew).below g) | (with_reducible have q:=(bk_new _ #[.string ⟨#[]⟩,.string ⟨#[]⟩,.string ⟨#[]⟩] 26).below g) | skip)) | (go_at_call_of 117 (Value.agg #[.string c1,.string c2,.string c3]); refine (H2.out _ (hB.below (bn B1 (by go_split_ands; assumption)))).mono ?_; rintro e wx1 ⟨rfl,g⟩; have BX : Below w1.heap.size w1 wx1:=bn (by go_split_ands; assumption) g; have hzx:=BX.size; (first | (with_reducible have q:=Bk.below q g) | (with_reducible have q:=((bk_new _ #[.string ⟨#[]⟩,.string ⟨#[]⟩,.string ⟨#[]⟩] 26).drew).below g) | (with_reducible have q:=(bk_new _ #[.string ⟨#[]⟩,.string ⟨#[]⟩,.string ⟨#[]⟩] 26).below g) | skip)) | (go_at_call 122; refine (H3.out _ (hB.below (bn B1 (by go_split_ands; assumption)))).mono ?_; rintro e wx1 ⟨rfl,g⟩; have BX : Below w1.heap.size w1 wx1:=bn (by go_split_ands; assumption) g; have hzx:=BX.size; (first | (with_reducible have q:=Bk.below q g) | (with_reducible have q:=((bk_new _ #[.string ⟨#[]⟩,.string ⟨#[]⟩,.string ⟨#[]⟩] 26).drew).below g) | (with_reducible have q:=(bk_new _ #[.string ⟨#[]⟩,.string ⟨#[]⟩,.string ⟨#[]⟩] 26).below g) | skip); (try obtain ⟨o0,o1,o2,f0,f1,f2⟩:=q.c3); (try have hq:=q.lt)))
  all_goals
   go_split_ands
   go_wp2_with fail
   go_meet
   first
    | exact ⟨_,rfl,by omega,Lib.hid (bk_at rfl),by with_reducible assumption⟩
    | exact ⟨_,rfl,by omega,Lib.hid (((q.set 0 (by simp) _).set 1 (by simp) _).set 2 (by simp) _),by with_reducible assumption⟩
 case rest =>
  obtain ⟨p,rfl,hp,HN,BC⟩:=hcut
  have HA2:=Lib.hid (HA.out.below BC)
  have HR2:=Lib.hid (HR.out.below BC)
  have Bc : Below w.heap.size w wc:=bn B1 BC
  clear BC HA HBb HCc HR B1
  go_upto_region 5 with fail
  go_cut [10] (fun s10 wx=>∃ p2 : Nat,s10=.pointer (some ⟨p2,0,none⟩)∧w.heap.size+3<p2∧Hid (Bk wx p2 [.string n1,.string n2,.string n3,.string n4])∧Below wc.heap.size wc wx)
  case first =>
   have hzR:=HR2.out.lt
   obtain ⟨x1,x2,x3, -, -, -⟩:=HA2.out.c3
   obtain ⟨y1,y2,y3, -, -, -⟩:=HN.out.c3
   go_region_held3 (fun w'=>w'.cell? ⟨w.heap.size,0,none⟩=some (.string a1)∧w'.cell? ⟨w.heap.size,1,none⟩=some (.string a2)∧w'.cell? ⟨w.heap.size,2,none⟩=some (.string a3)∧w'.cell? ⟨p,0,none⟩=some (.string n1)∧w'.cell? ⟨p,1,none⟩=some (.string n2)∧w'.cell? ⟨p,2,none⟩=some (.string n3)∧Below wc.heap.size wc w')
    ((refine (fun hb=>⟨bc hb x1,bc hb x2,bc hb x3,bc hb y1,bc hb y2,bc hb y3,hb⟩) ?_; go_split_ands; repeat (first | with_reducible assumption | (with_reducible exact bd (br _)) | (with_reducible exact br _) | (with_reducible refine bn ?_ g) | (with_reducible refine ba ?_) | (with_reducible refine bd ?_) | (refine bs ?_ ?_; rotate_left; ((try simp)<;>omega)))))
    (first | (go_at_call 72; refine (H4.out _ (hB.below (bn Bc (by go_split_ands; assumption)))).mono ?_; rintro e wx1 ⟨rfl,g⟩; have BX : Below wc.heap.size wc wx1:=bn (by go_split_ands; assumption) g; have hzx:=BX.size; (first | (with_reducible have q:=Bk.below q g) | (with_reducible have q:=((bk_new _ #[.string ⟨#[]⟩,.string ⟨#[]⟩,.string ⟨#[]⟩,.string ⟨#[]⟩] 28).drew).below g) | (with_reducible have q:=(bk_new _ #[.string ⟨#[]⟩,.string ⟨#[]⟩,.string ⟨#[]⟩,.string ⟨#[]⟩] 28).below g) | skip); (try obtain ⟨o0,o1,o2,o3,f0,f1,f2,f3⟩:=q.c4); (try have hq:=q.lt)))
   all_goals
    go_split_ands
    go_wp2_with fail
    go_meet
    first
     | exact ⟨_,rfl,by omega,Lib.hid (bk_at rfl),by with_reducible assumption⟩
     | exact ⟨_,rfl,by omega,Lib.hid ((((q.set 0 (by simp) _).set 1 (by simp) _).set 2 (by simp) _).set 3 (by simp) _),by with_reducible assumption⟩
  case rest =>
   rename_i wd
   obtain ⟨p2,rfl,hp2,HP,BD⟩:=hcut
   have HR3:=Lib.hid (HR2.out.below BD)
   have Bd:=bn Bc BD
   clear BD HA2 HR2 HN Bc
   obtain ⟨o0,o1,o2,o3, -, -, -, -⟩:=HP.out.c4
   go_wp2_with fail
   refine (H5.out _ (hB.below Bd)).mono ?_
   rintro e w5 ⟨rfl,g5⟩
   obtain ⟨j0,j1,j2,j3,k0,k1,k2,k3⟩:=(HP.out.below g5).c4
   obtain ⟨q0,q1,q2,q3,f0,f1,f2,f3⟩:=(HR3.out.below g5).c4
   have B5:=bn Bd g5
   clear g5 HP HR3 Bd o0 o1 o2 o3
   go_wp2
   refine bodyPost_ret (v:=.tuple #[.agg #[.string n1,.string n2,.string n3,.string n4],.int .i64 0]) (by simp [results,Tryz.results77,go_sem, *]) rfl ⟨(by first | rfl | rw [hI]),bel⟩
set_option maxHeartbeats 4000000 in
theorem through_no (a1 a2 a3 b1 b2 b3 c1 c2 c3 d1 d2 d3 e1 e2 e3 n1 n2 n3 n4 : ByteArray) (w : World) (hB : Bw w)
  (hv : ∀ W p,Bw W→p=W.heap.size→Calls Tryz.prog 71 #[.slice (some ⟨p,0,none⟩) 3 3] (W.alloc (.cells #[.string a1,.string a2,.string a3,.string b1,.string b2,.string b3,.string c1,.string c2,.string c3] 26)) fun e w'=>e=.returned (.int .i64 0)∧Below (W.alloc (.cells #[.string a1,.string a2,.string a3,.string b1,.string b2,.string b3,.string c1,.string c2,.string c3] 26)).heap.size (W.alloc (.cells #[.string a1,.string a2,.string a3,.string b1,.string b2,.string b3,.string c1,.string c2,.string c3] 26)) w')
  (h1 : ∀ w,Bw w→Calls Tryz.prog 117 #[.func (.func 76) #[] #[],.agg #[.string b1,.string b2,.string b3],.agg #[.string a1,.string a2,.string a3]] w fun e w'=>e=.returned (.agg #[.string d1,.string d2,.string d3])∧Below w.heap.size w w')
  (h2 : ∀ w,Bw w→Calls Tryz.prog 117 #[.func (.func 76) #[] #[],.agg #[.string c1,.string c2,.string c3],.agg #[.string a1,.string a2,.string a3]] w fun e w'=>e=.returned (.agg #[.string e1,.string e2,.string e3])∧Below w.heap.size w w')
  (h3 : ∀ w,Bw w→Calls Tryz.prog 122 #[.agg #[.string d1,.string d2,.string d3],.agg #[.string e1,.string e2,.string e3]] w fun e w'=>e=.returned (.agg #[.string n1,.string n2,.string n3])∧Below w.heap.size w w')
  (h4 : ∀ w,Bw w→Calls Tryz.prog 72 #[.agg #[.string n1,.string n2,.string n3],.agg #[.string a1,.string a2,.string a3]] w fun e w'=>e=.returned (.string n4)∧Below w.heap.size w w')
  (h5 : ∀ w,Bw w→Calls Tryz.prog 63 #[.agg #[.string n1,.string n2,.string n3,.string n4]] w fun e w'=>e=.returned (.int .i64 1)∧Below w.heap.size w w') :
  Calls Tryz.prog 77 #[.agg #[.string a1,.string a2,.string a3],.agg #[.string b1,.string b2,.string b3],.agg #[.string c1,.string c2,.string c3]] w fun e w'=>e=.returned (.tuple #[.agg #[.string ⟨#[]⟩,.string ⟨#[]⟩,.string ⟨#[]⟩,.string ⟨#[]⟩],.int .i64 16])∧Below w.heap.size w w':=by
 have HV:=Lib.hid hv
 have H1:=Lib.hid h1
 have H2:=Lib.hid h2
 have H3:=Lib.hid h3
 have H4:=Lib.hid h4
 have H5:=Lib.hid h5
 clear hv h1 h2 h3 h4 h5
 go_enter Tryz.func77,Tryz.ntmps77
 go_wp2_with fail
 refine (HV.out _ _ (hB.below bel) (by simp)).mono ?_
 rintro e w1 ⟨rfl,g1⟩
 have HA : Hid (Bk w1 w.heap.size [.string a1,.string a2,.string a3]):=Lib.hid (Bk.below bkk g1)
 have HBb : Hid (Bk w1 (w.heap.size+1) [.string b1,.string b2,.string b3]):=Lib.hid (Bk.below bkk g1)
 have HCc : Hid (Bk w1 (w.heap.size+1+1) [.string c1,.string c2,.string c3]):=Lib.hid (Bk.below bkk g1)
 have HR : Hid (Bk w1 (w.heap.size+1+1+1) [.string ⟨#[]⟩,.string ⟨#[]⟩,.string ⟨#[]⟩,.string ⟨#[]⟩]):=Lib.hid (Bk.below bkk g1)
 have B1:=bn (w:=w) bel g1
 clear g1
 go_upto_region 4 with fail
 go_cut [9] (fun s9 wx=>∃ p : Nat,s9=.pointer (some ⟨p,0,none⟩)∧w.heap.size+3<p∧Hid (Bk wx p [.string n1,.string n2,.string n3])∧Below w1.heap.size w1 wx)
 case first =>
  have hzR:=HR.out.lt
  obtain ⟨x1,x2,x3, -, -, -⟩:=HA.out.c3
  obtain ⟨y1,y2,y3, -, -, -⟩:=HBb.out.c3
  obtain ⟨z1,z2,z3, -, -, -⟩:=HCc.out.c3
  go_region_held3 (fun w'=>w'.cell? ⟨w.heap.size,0,none⟩=some (.string a1)∧w'.cell? ⟨w.heap.size,1,none⟩=some (.string a2)∧w'.cell? ⟨w.heap.size,2,none⟩=some (.string a3)∧w'.cell? ⟨w.heap.size+1,0,none⟩=some (.string b1)∧w'.cell? ⟨w.heap.size+1,1,none⟩=some (.string b2)∧w'.cell? ⟨w.heap.size+1,2,none⟩=some (.string b3)∧w'.cell? ⟨w.heap.size+1+1,0,none⟩=some (.string c1)∧w'.cell? ⟨w.heap.size+1+1,1,none⟩=some (.string c2)∧w'.cell? ⟨w.heap.size+1+1,2,none⟩=some (.string c3)∧Below w1.heap.size w1 w')
   ((refine (fun hb=>⟨bc hb x1,bc hb x2,bc hb x3,bc hb y1,bc hb y2,bc hb y3,bc hb z1,bc hb z2,bc hb z3,hb⟩) ?_; go_split_ands; repeat (first | with_reducible assumption | (with_reducible exact bd (br _)) | (with_reducible exact br _) | (with_reducible refine bn ?_ g) | (with_reducible refine ba ?_) | (with_reducible refine bd ?_) | (refine bs ?_ ?_; rotate_left; ((try simp)<;>omega)))))
   (first | (go_at_call_of 117 (Value.agg #[.string b1,.string b2,.string b3]); refine (H1.out _ (hB.below (bn B1 (by go_split_ands; assumption)))).mono ?_; rintro e wx1 ⟨rfl,g⟩; have BX : Below w1.heap.size w1 wx1:=bn (by go_split_ands; assumption) g; have hzx:=BX.size; (first | (with_reducible have q:=Bk.below q g) | (with_reducible have q:=((bk_new _ #[.string ⟨#[]⟩,.string ⟨#[]⟩,.string ⟨#[]⟩] 26).drew).below g) | (with_reducible have q:=(bk_new _ #[.string ⟨#[]⟩,.string ⟨#[]⟩,.string ⟨#[]⟩] 26).below g) | skip)) | (go_at_call_of 117 (Value.agg #[.string c1,.string c2,.string c3]); refine (H2.out _ (hB.below (bn B1 (by go_split_ands; assumption)))).mono ?_; rintro e wx1 ⟨rfl,g⟩; have BX : Below w1.heap.size w1 wx1:=bn (by go_split_ands; assumption) g; have hzx:=BX.size; (first | (with_reducible have q:=Bk.below q g) | (with_reducible have q:=((bk_new _ #[.string ⟨#[]⟩,.string ⟨#[]⟩,.string ⟨#[]⟩] 26).drew).below g) | (with_reducible have q:=(bk_new _ #[.string ⟨#[]⟩,.string ⟨#[]⟩,.string ⟨#[]⟩] 26).below g) | skip)) | (go_at_call 122; refine (H3.out _ (hB.below (bn B1 (by go_split_ands; assumption)))).mono ?_; rintro e wx1 ⟨rfl,g⟩; have BX : Below w1.heap.size w1 wx1:=bn (by go_split_ands; assumption) g; have hzx:=BX.size; (first | (with_reducible have q:=Bk.below q g) | (with_reducible have q:=((bk_new _ #[.string ⟨#[]⟩,.string ⟨#[]⟩,.string ⟨#[]⟩] 26).drew).below g) | (with_reducible have q:=(bk_new _ #[.string ⟨#[]⟩,.string ⟨#[]⟩,.string ⟨#[]⟩] 26).below g) | skip); (try obtain ⟨o0,o1,o2,f0,f1,f2⟩:=q.c3); (try have hq:=q.lt)))
  all_goals
   go_split_ands
   go_wp2_with fail
   go_meet
   first
    | exact ⟨_,rfl,by omega,Lib.hid (bk_at rfl),by with_reducible assumption⟩
    | exact ⟨_,rfl,by omega,Lib.hid (((q.set 0 (by simp) _).set 1 (by simp) _).set 2 (by simp) _),by with_reducible assumption⟩
 case rest =>
  obtain ⟨p,rfl,hp,HN,BC⟩:=hcut
  have HA2:=Lib.hid (HA.out.below BC)
  have HR2:=Lib.hid (HR.out.below BC)
  have Bc : Below w.heap.size w wc:=bn B1 BC
  clear BC HA HBb HCc HR B1
  go_upto_region 5 with fail
  go_cut [10] (fun s10 wx=>∃ p2 : Nat,s10=.pointer (some ⟨p2,0,none⟩)∧w.heap.size+3<p2∧Hid (Bk wx p2 [.string n1,.string n2,.string n3,.string n4])∧Below wc.heap.size wc wx)
  case first =>
   have hzR:=HR2.out.lt
   obtain ⟨x1,x2,x3, -, -, -⟩:=HA2.out.c3
   obtain ⟨y1,y2,y3, -, -, -⟩:=HN.out.c3
   go_region_held3 (fun w'=>w'.cell? ⟨w.heap.size,0,none⟩=some (.string a1)∧w'.cell? ⟨w.heap.size,1,none⟩=some (.string a2)∧w'.cell? ⟨w.heap.size,2,none⟩=some (.string a3)∧w'.cell? ⟨p,0,none⟩=some (.string n1)∧w'.cell? ⟨p,1,none⟩=some (.string n2)∧w'.cell? ⟨p,2,none⟩=some (.string n3)∧Below wc.heap.size wc w')
    ((refine (fun hb=>⟨bc hb x1,bc hb x2,bc hb x3,bc hb y1,bc hb y2,bc hb y3,hb⟩) ?_; go_split_ands; repeat (first | with_reducible assumption | (with_reducible exact bd (br _)) | (with_reducible exact br _) | (with_reducible refine bn ?_ g) | (with_reducible refine ba ?_) | (with_reducible refine bd ?_) | (refine bs ?_ ?_; rotate_left; ((try simp)<;>omega)))))
    (first | (go_at_call 72; refine (H4.out _ (hB.below (bn Bc (by go_split_ands; assumption)))).mono ?_; rintro e wx1 ⟨rfl,g⟩; have BX : Below wc.heap.size wc wx1:=bn (by go_split_ands; assumption) g; have hzx:=BX.size; (first | (with_reducible have q:=Bk.below q g) | (with_reducible have q:=((bk_new _ #[.string ⟨#[]⟩,.string ⟨#[]⟩,.string ⟨#[]⟩,.string ⟨#[]⟩] 28).drew).below g) | (with_reducible have q:=(bk_new _ #[.string ⟨#[]⟩,.string ⟨#[]⟩,.string ⟨#[]⟩,.string ⟨#[]⟩] 28).below g) | skip); (try obtain ⟨o0,o1,o2,o3,f0,f1,f2,f3⟩:=q.c4); (try have hq:=q.lt)))
   all_goals
    go_split_ands
    go_wp2_with fail
    go_meet
    first
     | exact ⟨_,rfl,by omega,Lib.hid (bk_at rfl),by with_reducible assumption⟩
     | exact ⟨_,rfl,by omega,Lib.hid ((((q.set 0 (by simp) _).set 1 (by simp) _).set 2 (by simp) _).set 3 (by simp) _),by with_reducible assumption⟩
  case rest =>
   rename_i wd
   obtain ⟨p2,rfl,hp2,HP,BD⟩:=hcut
   have HR3:=Lib.hid (HR2.out.below BD)
   have Bd:=bn Bc BD
   clear BD HA2 HR2 HN Bc
   obtain ⟨o0,o1,o2,o3, -, -, -, -⟩:=HP.out.c4
   go_wp2_with fail
   refine (H5.out _ (hB.below Bd)).mono ?_
   rintro e w5 ⟨rfl,g5⟩
   obtain ⟨j0,j1,j2,j3,k0,k1,k2,k3⟩:=(HP.out.below g5).c4
   obtain ⟨q0,q1,q2,q3,f0,f1,f2,f3⟩:=(HR3.out.below g5).c4
   have B5:=bn Bd g5
   clear g5 HP HR3 Bd o0 o1 o2 o3
   go_wp2
   refine bodyPost_ret (v:=.tuple #[.agg #[.string ⟨#[]⟩,.string ⟨#[]⟩,.string ⟨#[]⟩,.string ⟨#[]⟩],.int .i64 16]) (by simp [results,Tryz.results77,go_sem, *]) rfl ⟨(by first | rfl | rw [hI]),bel⟩
def thrN (a b c : V3) : V3:=(b.sub a).cross (c.sub a)
def thrP (a b c : V3) : Pl:=⟨thrN a b c,(thrN a b c).dot a⟩
theorem thrN_le {a b c : V3} {k n : Nat} (ha : a.le k) (hb : b.le k) (hc : c.le k) (h : 8 * k+5≤n) : (thrN a b c).le n :=
 V3.le_cross (V3.le_sub hb ha (Nat.le_refl _)) (V3.le_sub hc ha (Nat.le_refl _)) (by omega)
theorem thrP_le {a b c : V3} {k n : Nat} (ha : a.le k) (hb : b.le k) (hc : c.le k) (h : 27 * k+17≤n) : (thrP a b c).le n :=
 ⟨thrN_le ha hb hc (by omega),rz_dot (thrN_le ha hb hc (Nat.le_refl _)) ha (by omega)⟩
def thrV (a b c : V3) : Value:=if thrN a b c=V3.zero then .agg #[.string ⟨#[]⟩,.string ⟨#[]⟩,.string ⟨#[]⟩,.string ⟨#[]⟩] else PV (thrP a b c)
def thrE (a b c : V3) : Int:=if thrN a b c=V3.zero then 16 else 0
theorem vThrough_walk (a b c : V3) (ha : a.le 100000) (hb : b.le 100000) (hc : c.le 100000) (w : World) (hB : Bw w) :
  Calls Tryz.prog 77 #[VV a,VV b,VV c] w fun e w'=>e=.returned (.tuple #[thrV a b c,.int .i64 (thrE a b c)])∧Below w.heap.size w w':=by
 have hn:=thrN_le (n:=900000) ha hb hc (by omega)
 have hs1:=V3.le_sub hb ha (n:=200001) (by omega)
 have hs2:=V3.le_sub hc ha (n:=200001) (by omega)
 have hp:=thrP_le (n:=3000000) ha hb hc (by omega)
 have hv : ∀ W p,Bw W→p=W.heap.size→Calls Tryz.prog 71 #[.slice (some ⟨p,0,none⟩) 3 3] (W.alloc (.cells #[.string (rtx a.x),.string (rtx a.y),.string (rtx a.z),.string (rtx b.x),.string (rtx b.y),.string (rtx b.z),.string (rtx c.x),.string (rtx c.y),.string (rtx c.z)] 26)) fun e w'=>e=.returned (.int .i64 0)∧Below (W.alloc (.cells #[.string (rtx a.x),.string (rtx a.y),.string (rtx a.z),.string (rtx b.x),.string (rtx b.y),.string (rtx b.z),.string (rtx c.x),.string (rtx c.y),.string (rtx c.z)] 26)).heap.size (W.alloc (.cells #[.string (rtx a.x),.string (rtx a.y),.string (rtx a.z),.string (rtx b.x),.string (rtx b.y),.string (rtx b.z),.string (rtx c.x),.string (rtx c.y),.string (rtx c.z)] 26)) w':=by
  intro W p hW hp
  have hc0 : chk [txv a,txv b,txv c]=0:=chk_yes (by simp [isVec_txv])
  rw [← hc0]
  refine vcheck_walk _ [txv a,txv b,txv c] _ (hW.below (ba (br W))) (vs_lit W _ _ 3 p rfl rfl (by simp) hp) (fun s hs=>?_)
  simp at hs
  rcases hs with rfl | rfl | rfl
  ·have:=txv_le ha; exact ⟨by have:=this.1; omega,by have:=this.2.1; omega,by have:=this.2.2; omega⟩
  ·have:=txv_le hb; exact ⟨by have:=this.1; omega,by have:=this.2.1; omega,by have:=this.2.2; omega⟩
  ·have:=txv_le hc; exact ⟨by have:=this.1; omega,by have:=this.2.1; omega,by have:=this.2.2; omega⟩
 have h1:=fun w hB=>vzip_sub b a (hb.mono (by omega)) (ha.mono (by omega)) w hB
 have h2:=fun w hB=>vzip_sub c a (hc.mono (by omega)) (ha.mono (by omega)) w hB
 have h3:=fun w hB=>vcross_walk (b.sub a) (c.sub a) (hs1.mono (by omega)) (hs2.mono (by omega)) w hB
 have h4:=fun w hB=>vdot_walk (thrN a b c) a (hn.mono (by omega)) (ha.mono (by omega)) w hB
 have h5:=fun w hB=>vplane_walk (thrP a b c) ⟨hp.1.mono (by omega),by have:=hp.2; omega⟩ w hB
 unfold thrV thrE
 by_cases h0 : thrN a b c=V3.zero
 ·rw [if_pos h0,if_pos h0]
  have : plc (thrP a b c).n=1:=plc_zero h0
  rw [this] at h5
  exact through_no _ _ _ _ _ _ _ _ _ _ _ _ _ _ _ _ _ _ _ w hB hv h1 h2 h3 h4 h5
 ·rw [if_neg h0,if_neg h0]
  have : plc (thrP a b c).n=0:=plc_ne h0
  rw [this] at h5
  exact through_yes _ _ _ _ _ _ _ _ _ _ _ _ _ _ _ _ _ _ _ w hB hv h1 h2 h3 h4 h5
end Go.Proofs.YtopfedbhkfdjkaaGreatDoor

namespace Go.Proofs.YtopfedbhkfdjkaaGreatDoor
open Go Go.RowKit
open Go.ChangeMaps (setBlock)
section
variable {κ υ : Type}
variable {f : κ→Value} {g : υ→Value}
theorem cell_setBlock {W : World} {b : Nat} {o : Obj} {m : Array MapEntry} {c : Nat} (hb : W.heap[b]?=some (.map m c)) {p : Addr} {v : Value} (h : W.cell? p=some v) : (setBlock W b o).cell? p=some v:=by
 have hne : p.block≠b:=by
  intro e
  rw [World.cell?,e,hb] at h
  simp at h
 unfold World.cell? at h ⊢
 rw [setBlock_far hne]
 exact h
end
section
variable {κ υ : Type} [DecidableEq κ] {f : κ→Value} {g : υ→Value}
theorem mo_update {P : Program} {t kt et : TypeId} (K : KL P kt f) (ht : P.underlying t=some (.map kt et)) {w : World} {b : Nat} {l : List (κ × υ)} (hb : w.heap[b]?=some (Mo f g l)) (x : κ) (v : υ) :
  (Instr.mapUpdate t (.map (some b)) (f x) (g v)).run P w=.ok () (setBlock w b (Mo f g (kset l x v))):=by
 have hf:=findKey_ents (g:=g) K x w l
 unfold Mo at hb
 have hk:=K.chk false x w
 cases hp : kpos l x with
 | none =>
  rw [hp] at hf
  simp only [Option.bind_none] at hf
  simp only [Instr.mapUpdate,Sem.run_bind,run_underlying ht,MapKept.run_getObj_map hb,Result.andThen,hk,List.toList_toArray,hf,MapKept.run_setObj_map _ hb]
  rw [kset_none hp]
  have e : Mo f g (l++[(x,v)])=.map ((ents f g l 0).toArray.push { key:=f x,val:=g v,born:=l.length }) (l.length+1):=by
   rw [Mo,ents_append]
   simp [ents]
  rw [e]
  rfl
 | some j =>
  obtain ⟨u,h1,h2⟩:=kpos_lt hp
  rw [hp] at hf
  simp only [Option.bind_some,h1,Option.map_some] at hf
  have hkey : ((((ents f g l 0).toArray)[j]?).map (·.key)).getD (f x)=f x:=by
   rw [List.getElem?_toArray,ents_get,h1]
   rfl
  simp only [Instr.mapUpdate,Sem.run_bind,run_underlying ht,MapKept.run_getObj_map hb,Result.andThen,hk,List.toList_toArray,hf,hkey,Instr.keyThatStays,K.bits x,if_true,Sem.run_pure,MapKept.run_setObj_map _ hb]
  rw [kset_some hp]
  have e : Mo f g (l.set j (x,v))=.map ((ents f g l 0).toArray.modify j fun e=>{ e with key:=f x,val:=g v }) l.length:=by
   rw [Mo,ents_set,List.length_set]
   simp
  rw [e]
  rfl
end
end Go.Proofs.YtopfedbhkfdjkaaGreatDoor

namespace Go.Proofs.YtopfedbhkfdjkaaGreatDoor
open Go Go.RowKit
section
variable {α β : Type}
def Tr.pts (t : Tr α) : List α:=[t.a,t.b,t.c]
def tpts (l : List (Tr α)) : List α:=l.flatMap Tr.pts
theorem tpts_length (l : List (Tr α)) : (tpts l).length=l.length * 3:=by
 induction l with
 | nil=>rfl
 | cons t l ih =>
  show (t.pts++tpts l).length=_
  rw [List.length_append,ih,List.length_cons]
  simp [Tr.pts]; omega
variable [DecidableEq α] [DecidableEq β]
def nub (l : List α) : List α:=l.foldl (fun out x=>if x ∈ out then out else out++[x]) []
def nubStep (out : List α) (x : α) : List α:=if x ∈ out then out else out++[x]
theorem nub_snoc (l : List α) (x : α) : nub (l++[x])=nubStep (nub l) x:=by
 unfold nub nubStep
 rw [List.foldl_append]
 rfl
theorem mem_nubStep (out : List α) (x y : α) : y ∈ nubStep out x↔y ∈ out∨y=x:=by
 unfold nubStep
 split
 ·exact ⟨.inl,fun h=>h.elim id (fun e=>by rw [e]; assumption)⟩
 ·simp
theorem mem_nub_aux (l : List α) : ∀ (out : List α) (y : α),y ∈ l.foldl nubStep out↔y ∈ out∨y ∈ l:=by
 induction l with
 | nil=>simp
 | cons a l ih =>
  intro out y
  rw [List.foldl_cons,ih,mem_nubStep,List.mem_cons]
  constructor
  ·rintro ((h | h) | h)
   ·exact .inl h
   ·exact .inr (.inl h)
   ·exact .inr (.inr h)
  ·rintro (h | h | h)
   ·exact .inl (.inl h)
   ·exact .inl (.inr h)
   ·exact .inr h
theorem nub_eq (l : List α) : nub l=l.foldl nubStep []:=rfl
theorem mem_nub (l : List α) (y : α) : y ∈ nub l↔y ∈ l:=by
 rw [nub_eq,mem_nub_aux]
 simp
theorem nub_length_aux (l : List α) : ∀ (out : List α),(l.foldl nubStep out).length≤out.length+l.length:=by
 induction l with
 | nil=>simp
 | cons a l ih =>
  intro out
  have:=ih (nubStep out a)
  have h2 : (nubStep out a).length≤out.length+1:=by unfold nubStep; split<;>simp
  simp only [List.foldl_cons,List.length_cons]
  omega
theorem nub_length (l : List α) : (nub l).length≤l.length:=by
 have:=nub_length_aux l ([] : List α)
 rw [nub_eq]
 simpa using this
def pointsL (l : List (Tr α)) : List α:=nub (tpts l)
def rootOf (R : List (α × α)) (x : α) : α:=(kget R x).getD x
def touch (R : List (α × α)) (x : α) : List (α × α):=if (kget R x).isSome then R else R++[(x,x)]
def graft (R : List (α × α)) (r s : α) : List (α × α):=R.map fun p=>if p.2=r then (p.1,s) else p
def unite (R : List (α × α)) (x y : α) : List (α × α):=graft (touch (touch R x) y) (rootOf (touch R x) x) (rootOf (touch (touch R x) y) y)
def shellStep (R : List (α × α)) (t : Tr α) : List (α × α):=unite (unite R t.b t.a) t.c t.a
def shellR (l : List (Tr α)) : List (α × α):=l.foldl shellStep []
def shellsL (l : List (Tr α)) : Nat:=(shellR l).countP fun p=>decide (p.1=p.2)
end
end Go.Proofs.YtopfedbhkfdjkaaGreatDoor

namespace Go.Proofs.YtopfedbhkfdjkaaGreatDoor
open Go Go.RowKit
section
variable {α β : Type}
theorem tpts_map (f : α→β) (l : List (Tr α)) : tpts (l.map (Tr.map f))=(tpts l).map f:=by
 induction l with
 | nil=>rfl
 | cons t l ih =>
  show Tr.pts (Tr.map f t)++tpts (l.map (Tr.map f))=(t.pts++tpts l).map f
  rw [ih,List.map_append]
  rfl
end
section
variable {α β : Type} [DecidableEq α] [DecidableEq β]
theorem kget_append {υ : Type} (l m : List (α × υ)) (x : α) : kget (l++m) x=(kget l x).or (kget m x):=by
 unfold kget
 rw [List.find?_append]
 cases List.find? (fun p=>decide (x=p.fst)) l<;>rfl
theorem kget_none_iff {υ : Type} (l : List (α × υ)) (x : α) : kget l x=none↔x ∉ l.map (·.1):=by
 unfold kget
 rw [Option.map_eq_none_iff,List.find?_eq_none]
 constructor
 ·intro h hx
  obtain ⟨p,hp,rfl⟩:=List.mem_map.1 hx
  have:=h p hp
  simp at this
 ·intro h p hp
  simp only [decide_eq_true_eq]
  intro e
  exact h (e ▸ List.mem_map_of_mem hp)
theorem kget_some_of_mem {υ : Type} {l : List (α × υ)} {x : α} (h : x ∈ l.map (·.1)) : ∃ u,kget l x=some u:=by
 cases h2 : kget l x with
 | none=>exact absurd h ((kget_none_iff l x).1 h2)
 | some u=>exact ⟨u,rfl⟩
theorem touch_of_mem {R : List (α × α)} {x : α} (h : x ∈ R.map (·.1)) : touch R x=R:=by
 obtain ⟨u,hu⟩:=kget_some_of_mem h
 rw [touch,hu]
 rfl
theorem touch_of_not {R : List (α × α)} {x : α} (h : x ∉ R.map (·.1)) : touch R x=R++[(x,x)]:=by
 rw [touch,(kget_none_iff R x).2 h]
 rfl
theorem rootOf_touch (R : List (α × α)) (x y : α) : rootOf (touch R x) y=rootOf R y:=by
 by_cases h : x ∈ R.map (·.1)
 ·rw [touch_of_mem h]
 ·rw [touch_of_not h]
  unfold rootOf
  rw [kget_append]
  cases h2 : kget R y with
  | some u=>rfl
  | none =>
   by_cases h3 : y=x
   ·subst h3; simp [kget]
   ·simp [kget,h3]
theorem mem_touch (R : List (α × α)) (x : α) : x ∈ (touch R x).map (·.1):=by
 by_cases h : x ∈ R.map (·.1)
 ·rw [touch_of_mem h]; exact h
 ·rw [touch_of_not h]; simp
theorem mem_touch_of {R : List (α × α)} {y : α} (h : y ∈ R.map (·.1)) (x : α) : y ∈ (touch R x).map (·.1):=by
 by_cases h2 : x ∈ R.map (·.1)
 ·rw [touch_of_mem h2]; exact h
 ·rw [touch_of_not h2,List.map_append]; exact List.mem_append_left _ h
theorem kget_graft (R : List (α × α)) (r s y : α) : kget (graft R r s) y=(kget R y).map fun q=>if q=r then s else q:=by
 induction R with
 | nil=>rfl
 | cons p R ih =>
  have e : graft (p :: R) r s=(if p.2=r then (p.1,s) else p) :: graft R r s:=rfl
  rw [e]
  by_cases h : y=p.1
  ·have e1 : kget (p :: R) y=some p.2:=by simp [kget,h]
   rw [e1]
   by_cases h2 : p.2=r
   ·simp [kget,h,h2]
   ·simp [kget,h,h2]
  ·have e1 : kget (p :: R) y=kget R y:=by simp [kget,h]
   rw [e1,← ih]
   by_cases h2 : p.2=r
   ·simp [kget,h,h2]
   ·simp [kget,h,h2]
theorem graft_keys (R : List (α × α)) (r s : α) : (graft R r s).map (·.1)=R.map (·.1):=by
 unfold graft
 rw [List.map_map]
 apply List.map_congr_left
 intro p _
 simp only [Function.comp]
 split<;>rfl
theorem rootOf_graft {R : List (α × α)} {y : α} (h : y ∈ R.map (·.1)) (r s : α) : rootOf (graft R r s) y=if rootOf R y=r then s else rootOf R y:=by
 obtain ⟨u,hu⟩:=kget_some_of_mem h
 unfold rootOf
 rw [kget_graft,hu]
 rfl
structure UF (ρ : α→Nat) (L R : List (α × α)) : Prop where
 keys : L.map (·.1)=R.map (·.1)
 nodup : (R.map (·.1)).Nodup
 step : ∀ x q,(x,q) ∈ L→q ∈ R.map (·.1)∧rootOf R q=rootOf R x∧(q=x↔rootOf R x=x)∧(q≠x→ρ q<ρ x)
 root : ∀ x,x ∈ R.map (·.1)→rootOf R x ∈ R.map (·.1)∧rootOf R (rootOf R x)=rootOf R x
theorem UF.nil (ρ : α→Nat) : UF ρ ([] : List (α × α)) []:=⟨rfl,by simp,by simp,by simp⟩
theorem UF.get {ρ : α→Nat} {L R : List (α × α)} (h : UF ρ L R) {x : α} (hx : x ∈ R.map (·.1)) : ∃ q,kget L x=some q∧(x,q) ∈ L:=by
 obtain ⟨q,hq⟩:=kget_some_of_mem (l:=L) (by rw [h.keys]; exact hx)
 exact ⟨q,hq,kget_mem hq⟩
theorem UF.rho {ρ : α→Nat} {L R : List (α × α)} (h : UF ρ L R) : ∀ (n : Nat) (x : α),ρ x≤n→x ∈ R.map (·.1)→ρ (rootOf R x)≤ρ x:=by
 intro n
 induction n with
 | zero =>
  intro x hn hx
  obtain ⟨q,_,hq⟩:=h.get hx
  obtain ⟨h1,h2,h3,h4⟩:=h.step x q hq
  by_cases e : q=x
  ·rw [h3.1 e]; exact Nat.le_refl _
  ·have:=h4 e; omega
 | succ n ih =>
  intro x hn hx
  obtain ⟨q,_,hq⟩:=h.get hx
  obtain ⟨h1,h2,h3,h4⟩:=h.step x q hq
  by_cases e : q=x
  ·rw [h3.1 e]; exact Nat.le_refl _
  ·have h5:=h4 e
   have:=ih q (by omega) h1
   rw [h2] at this
   omega
theorem UF.fresh {ρ : α→Nat} {L R : List (α × α)} (h : UF ρ L R) {p : α} (hp : kget L p=none) : UF ρ (kset L p p) (touch R p)∧rootOf (touch R p) p=p:=by
 have hn : p ∉ R.map (·.1):=by rw [← h.keys]; exact (kget_none_iff L p).1 hp
 have hpos : kpos L p=none:=by
  cases hk : kpos L p with
  | none=>rfl
  | some j =>
   obtain ⟨u,_,h2⟩:=kpos_lt hk
   rw [hp] at h2
   cases h2
 have e1 : kset L p p=L++[(p,p)]:=kset_none hpos p
 have e2:=touch_of_not hn
 have e3 : rootOf R p=p:=by
  unfold rootOf
  rw [(kget_none_iff R p).2 hn]
  rfl
 refine ⟨⟨?_, ?_, ?_, ?_⟩,by rw [rootOf_touch]; exact e3⟩
 ·rw [e1,e2,List.map_append,List.map_append,h.keys]
 ·rw [e2,List.map_append,List.nodup_append]
  refine ⟨h.nodup,by simp,fun a ha b hb=>?_⟩
  simp at hb
  subst hb
  exact fun e=>hn (e ▸ ha)
 ·intro x q hx
  rw [rootOf_touch,rootOf_touch]
  rw [e1] at hx
  rcases List.mem_append.1 hx with hx | hx
  ·obtain ⟨h1,h2,h3,h4⟩:=h.step x q hx
   exact ⟨mem_touch_of h1 p,h2,h3,h4⟩
  ·simp at hx
   obtain ⟨rfl,rfl⟩:=hx
   exact ⟨mem_touch R _,rfl,⟨fun _=>e3,fun _=>rfl⟩,fun h5=>absurd rfl h5⟩
 ·intro x hx
  rw [rootOf_touch,rootOf_touch]
  by_cases h5 : x=p
  ·subst h5
   rw [e3,e3]
   exact ⟨mem_touch R x,rfl⟩
  ·rw [e2,List.map_append] at hx
   rcases List.mem_append.1 hx with hx | hx
   ·exact ⟨mem_touch_of (h.root x hx).1 p,(h.root x hx).2⟩
   ·simp at hx
    exact absurd hx h5
theorem UF.self {ρ : α→Nat} {L R : List (α × α)} (h : UF ρ L R) {p : α} (hp : kget L p=some p) : kset L p p=L∧touch R p=R∧rootOf R p=p:=by
 have hm:=kget_mem hp
 have hk : p ∈ R.map (·.1):=by rw [← h.keys]; exact List.mem_map.2 ⟨_,hm,rfl⟩
 refine ⟨?_,touch_of_mem hk,(h.step p p hm).2.2.1.1 rfl⟩
 cases hpos : kpos L p with
 | none=>rw [(kpos_none hpos).1] at hp; cases hp
 | some j =>
  obtain ⟨u,h1,h2⟩:=kpos_lt hpos
  rw [hp] at h2
  cases h2
  rw [kset_some hpos]
  have hlt : j<L.length:=(List.getElem?_eq_some_iff.1 h1).1
  have h3 : L[j]=(p,p):=by rw [List.getElem?_eq_getElem hlt] at h1; exact Option.some.inj h1
  rw [← h3]
  exact List.set_getElem_self hlt
theorem UF.next {ρ : α→Nat} {L R : List (α × α)} (h : UF ρ L R) {p q : α} (hp : kget L p=some q) (hne : q≠p) : q ∈ R.map (·.1)∧p ∈ R.map (·.1)∧rootOf R q=rootOf R p∧ρ q<ρ p:=by
 have hm:=kget_mem hp
 have hk : p ∈ R.map (·.1):=by rw [← h.keys]; exact List.mem_map.2 ⟨_,hm,rfl⟩
 obtain ⟨h1,h2,h3,h4⟩:=h.step p q hm
 exact ⟨h1,hk,h2,h4 hne⟩
theorem kset_keys_eq {υ : Type} (l : List (α × υ)) (x : α) (v : υ) (h : x ∈ l.map (·.1)) : (kset l x v).map (·.1)=l.map (·.1):=by
 induction l with
 | nil=>simp at h
 | cons q l ih =>
  rw [kset]
  by_cases e : x=q.1
  ·rw [if_pos e]; simp [e]
  ·rw [if_neg e,List.map_cons,List.map_cons,ih]
   simp only [List.map_cons,List.mem_cons] at h
   exact h.resolve_left e
theorem UF.press {ρ : α→Nat} {L R : List (α × α)} (h : UF ρ L R) {p : α} (hp : p ∈ R.map (·.1)) : UF ρ (kset L p (rootOf R p)) R:=by
 have hk : p ∈ L.map (·.1):=by rw [h.keys]; exact hp
 refine ⟨by rw [kset_keys_eq _ _ _ hk,h.keys],h.nodup,fun x q hx=>?_,h.root⟩
 rcases mem_kset hx with hx | hx
 ·cases hx
  obtain ⟨h1,h2⟩:=h.root p hp
  refine ⟨h1,h2,Iff.rfl,fun hne=>?_⟩
  obtain ⟨q,_,hq⟩:=h.get hp
  obtain ⟨h3,h4,h5,h6⟩:=h.step p q hq
  have h7 : q≠p:=fun e=>hne (h5.1 e)
  have h8:=h6 h7
  have h9:=h.rho (ρ q) q (Nat.le_refl _) h3
  rw [h4] at h9
  omega
 ·exact h.step x q hx
theorem UF.join {ρ : α→Nat} {L R : List (α × α)} (h : UF ρ L R) {r s : α} (hr : r ∈ R.map (·.1)) (hr2 : rootOf R r=r) (hs : s ∈ R.map (·.1)) (hs2 : rootOf R s=s) : ∃ ρ',UF ρ' (kset L r s) (graft R r s):=by
 have hk : r ∈ L.map (·.1):=by rw [h.keys]; exact hr
 by_cases e : r=s
 ·subst e
  have e1 : graft R r r=R:=by
   unfold graft
   conv=>rhs; rw [← List.map_id R]
   apply List.map_congr_left
   intro p _
   split
   ·rename_i h2; simp [← h2]
   ·rfl
  refine ⟨ρ, ?_⟩
  rw [e1]
  have:=h.press hr
  rwa [hr2] at this
 ·refine ⟨fun x=>if rootOf R x=r then ρ x+ρ s+1 else ρ x,⟨by rw [kset_keys_eq _ _ _ hk,graft_keys,h.keys],by rw [graft_keys]; exact h.nodup,fun x q hx=>?_,fun x hx=>?_⟩⟩
  ·rw [graft_keys]
   have hmem : (x,q)=(r,s)∨((x,q) ∈ L∧x≠r):=by
    by_cases h5 : x=r
    ·left
     have h6 : ((kset L r s).map (·.1)).Nodup:=by rw [kset_keys_eq _ _ _ hk,h.keys]; exact h.nodup
     have h7:=(kget_iff h6 x q).2 hx
     rw [kget_kset,if_pos h5] at h7
     cases h7
     rw [h5]
    ·right
     rcases mem_kset hx with h6 | h6
     ·cases h6; exact absurd rfl h5
     ·exact ⟨h6,h5⟩
   rcases hmem with h5 | ⟨h5,h6⟩
   ·cases h5
    have h7 : rootOf R s≠r:=by rw [hs2]; exact fun e2=>e e2.symm
    rw [rootOf_graft hs,rootOf_graft hr,if_neg h7,if_pos hr2,hs2]
    refine ⟨hs,rfl,Iff.rfl,fun _=>?_⟩
    have h8 : ¬ s=r:=fun e2=>e e2.symm
    simp only [hs2,hr2,if_neg h8,if_pos]
    omega
   ·obtain ⟨h1,h2,h3,h4⟩:=h.step x q h5
    have hx2 : x ∈ R.map (·.1):=by rw [← h.keys]; exact List.mem_map.2 ⟨_,h5,rfl⟩
    rw [rootOf_graft h1,rootOf_graft hx2,h2]
    refine ⟨h1,rfl, ?_,fun hne=>?_⟩
    ·by_cases h7 : rootOf R x=r
     ·rw [if_pos h7]
      constructor
      ·intro h8
       exact absurd ((h3.1 h8).symm.trans h7) h6
      ·intro h8
       subst h8
       rw [hs2] at h7
       exact absurd h7.symm e
     ·rw [if_neg h7]; exact h3
    ·have:=h4 hne
     split<;>omega
  ·rw [graft_keys] at hx ⊢
   obtain ⟨h1,h2⟩:=h.root x hx
   rw [rootOf_graft hx]
   by_cases h7 : rootOf R x=r
   ·rw [if_pos h7,rootOf_graft hs,hs2,if_neg (fun e2=>e e2.symm)]
    exact ⟨hs,rfl⟩
   ·rw [if_neg h7,rootOf_graft h1,h2,if_neg h7]
    exact ⟨h1,rfl⟩
theorem UF.count {ρ : α→Nat} {L R : List (α × α)} (h : UF ρ L R) : (L.countP fun p=>decide (p.1=p.2))=R.countP fun p=>decide (p.1=p.2):=by
 have e1 : ∀ p ∈ L,decide (p.1=p.2)=decide (rootOf R p.1=p.1):=by
  intro p hp
  obtain ⟨_,_,h3,_⟩:=h.step p.1 p.2 hp
  by_cases h4 : p.2=p.1
  ·simp [h4,h3.1 h4]
  ·have : rootOf R p.1≠p.1:=fun h5=>h4 (h3.2 h5)
   simp [this,Ne.symm h4]
 have e2 : ∀ p ∈ R,decide (p.1=p.2)=decide (rootOf R p.1=p.1):=by
  intro p hp
  have : rootOf R p.1=p.2:=by
   unfold rootOf
   rw [(kget_iff h.nodup p.1 p.2).2 hp]
   rfl
  rw [this]
  by_cases h4 : p.1=p.2<;>simp [h4,eq_comm]
 have e3 : (L.countP fun p=>decide (p.1=p.2))=(L.map (·.1)).countP fun x=>decide (rootOf R x=x):=by
  rw [List.countP_map]
  exact List.countP_congr fun p hp=>by rw [e1 p hp]; rfl
 have e4 : (R.countP fun p=>decide (p.1=p.2))=(R.map (·.1)).countP fun x=>decide (rootOf R x=x):=by
  rw [List.countP_map]
  exact List.countP_congr fun p hp=>by rw [e2 p hp]; rfl
 rw [e3,e4,h.keys]
variable {f : α→β} (hf : ∀ x y,f x=f y→x=y)
include hf
theorem nubStep_map (out : List α) (x : α) : nubStep (out.map f) (f x)=(nubStep out x).map f:=by
 unfold nubStep
 by_cases h : x ∈ out
 ·rw [if_pos h,if_pos (List.mem_map_of_mem h)]
 ·have : f x ∉ out.map f:=by
   intro h2
   obtain ⟨y,hy,e⟩:=List.mem_map.1 h2
   exact h (hf _ _ e ▸ hy)
  rw [if_neg h,if_neg this,List.map_append]
  rfl
theorem nub_map (l : List α) : nub (l.map f)=(nub l).map f:=by
 have : ∀ (l : List α) (out : List α),(l.map f).foldl nubStep (out.map f)=(l.foldl nubStep out).map f:=by
  intro l
  induction l with
  | nil=>intro out; rfl
  | cons a l ih =>
   intro out
   rw [List.map_cons,List.foldl_cons,List.foldl_cons,nubStep_map hf,ih]
 exact this l []
theorem pointsL_map (l : List (Tr α)) : pointsL (l.map (Tr.map f))=(pointsL l).map f:=by
 unfold pointsL
 rw [tpts_map,nub_map hf]
theorem kget_map (R : List (α × α)) (x : α) : kget (R.map (e2 f)) (f x)=(kget R x).map f:=by
 induction R with
 | nil=>rfl
 | cons p R ih =>
  rw [List.map_cons]
  by_cases h : x=p.1
  ·have e1 : kget (p :: R) x=some p.2:=by simp [kget,h]
   have e3 : kget (e2 f p :: R.map (e2 f)) (f x)=some (f p.2):=by simp [kget,h,e2]
   rw [e1,e3]
   rfl
  ·have h2 : f x≠f p.1:=fun e=>h (hf _ _ e)
   have e1 : kget (p :: R) x=kget R x:=by simp [kget,h]
   have e3 : kget (e2 f p :: R.map (e2 f)) (f x)=kget (R.map (e2 f)) (f x):=by simp [kget,h2,e2]
   rw [e1,e3,ih]
theorem rootOf_map (R : List (α × α)) (x : α) : rootOf (R.map (e2 f)) (f x)=f (rootOf R x):=by
 unfold rootOf
 rw [kget_map hf]
 cases kget R x<;>rfl
theorem touch_map (R : List (α × α)) (x : α) : touch (R.map (e2 f)) (f x)=(touch R x).map (e2 f):=by
 unfold touch
 rw [kget_map hf]
 cases kget R x
 ·simp [e2]
 ·rfl
theorem graft_map (R : List (α × α)) (r s : α) : graft (R.map (e2 f)) (f r) (f s)=(graft R r s).map (e2 f):=by
 unfold graft
 rw [List.map_map,List.map_map]
 apply List.map_congr_left
 intro p _
 simp only [Function.comp]
 by_cases h : p.2=r
 ·rw [if_pos h,if_pos (by rw [← h]; rfl)]; rfl
 ·have h2 : ¬ (e2 f p).2=f r:=fun e=>h (hf _ _ e)
  rw [if_neg h,if_neg h2]
theorem unite_map (R : List (α × α)) (x y : α) : unite (R.map (e2 f)) (f x) (f y)=(unite R x y).map (e2 f):=by
 unfold unite
 rw [touch_map hf,touch_map hf,rootOf_map hf,rootOf_map hf,graft_map hf]
theorem shellR_map (l : List (Tr α)) : shellR (l.map (Tr.map f))=(shellR l).map (e2 f):=by
 have : ∀ (l : List (Tr α)) (R : List (α × α)),(l.map (Tr.map f)).foldl shellStep (R.map (e2 f))=(l.foldl shellStep R).map (e2 f):=by
  intro l
  induction l with
  | nil=>intro R; rfl
  | cons t l ih =>
   intro R
   have : shellStep (R.map (e2 f)) (Tr.map f t)=(shellStep R t).map (e2 f):=by
    unfold shellStep
    show unite (unite _ (f t.b) (f t.a)) (f t.c) (f t.a)=_
    rw [unite_map hf,unite_map hf]
   rw [List.map_cons,List.foldl_cons,List.foldl_cons,this,ih]
 exact this l []
theorem shellsL_map (l : List (Tr α)) : shellsL (l.map (Tr.map f))=shellsL l:=by
 unfold shellsL
 rw [shellR_map hf,List.countP_map]
 apply List.countP_congr
 intro p _
 simp only [Function.comp,decide_eq_true_eq]
 exact ⟨fun h=>hf _ _ h,fun h=>by show f p.1=f p.2; rw [h]⟩
end
end Go.Proofs.YtopfedbhkfdjkaaGreatDoor

namespace Go.Proofs.YtopfedbhkfdjkaaGreatDoor
open Go Go.RowKit
def convexL (l : List (Tr V3)) : Bool:=l.all fun t=>decide (thrN t.a t.b t.c=V3.zero) || (pointsL l).all fun p=>decide ((thrP t.a t.b t.c).height p≤0)
section
variable {lo hi : V3} (h1 : lo.x<hi.x) (h2 : lo.y<hi.y) (h3 : lo.z<hi.z)
include h1 h2 h3
end
end Go.Proofs.YtopfedbhkfdjkaaGreatDoor

namespace Go.Proofs.YtopfedbhkfdjkaaGreatDoor
open Go Go.RowKit
def bv (b : Bool) : Value:=.bool b
end Go.Proofs.YtopfedbhkfdjkaaGreatDoor

namespace Go.Proofs.YtopfedbhkfdjkaaGreatDoor
open Go Go.RowKit
open Go.ChangeMaps (setBlock)
theorem equal_vec (a b c d e f : ByteArray) (w : World) : (Op.equal 26 (.agg #[.string a,.string b,.string c]) (.agg #[.string d,.string e,.string f])).run Tryz.prog w=.ok (a.toList == d.toList && (b.toList == e.toList && c.toList == f.toList)) w:=by
 unfold Op.equal Op.maxDepth
 go_simp
 by_cases h1 : a.toList=d.toList<;>by_cases h2 : b.toList=e.toList<;>by_cases h3 : c.toList=f.toList<;>simp [h1,h2,h3]
theorem chk_vec (e : Bool) (a b c : ByteArray) (w : World) : (Instr.checkKey e 10000 26 (.agg #[.string a,.string b,.string c])).run Tryz.prog w=.ok () w:=by kernel_rfl
theorem kl_vec : KL Tryz.prog 26 SV.val where
 chk:=fun e x w=>chk_vec e x.x x.y x.z w
 eq:=fun x y w=>by
  have:=equal_vec x.x x.y x.z y.x y.y y.z w
  rw [sv_eq] at this
  exact this
 und:=⟨_,Tryz.underlying26,fun _ _=>rfl⟩
 bits:=fun x=>by unfold SV.val; simp [Instr.sameBits,bytes_same]
end Go.Proofs.YtopfedbhkfdjkaaGreatDoor

namespace Go.Proofs.YtopfedbhkfdjkaaGreatDoor
open Go Go.RowKit
open Go.ChangeMaps (setBlock)
theorem mp_set {W : World} {b : Nat} {o : Obj} {p : Addr} {u : Value} (h : W.heap[b]?=some o) (hp : b≠p.block) : (W.setCell p u).heap[b]?=some o:=(Below.heap_setCell W p u b hp).trans h
end Go.Proofs.YtopfedbhkfdjkaaGreatDoor

namespace Go.Proofs.YtopfedbhkfdjkaaGreatDoor
open Go Go.RowKit
open Go.ChangeMaps (setBlock)
theorem own_setBlock {W : World} {mb base sz n : Nat} {e : TypeId} {v : Value} {xs : List Value} {m : Array MapEntry} {c : Nat} {o : Obj} (h : W.ownsRow base e sz v n xs) (hb : W.heap[mb]?=some (.map m c)) : (setBlock W mb o).ownsRow base e sz v n xs:=by
 refine ⟨h.1, ?_⟩
 rcases h.2 with h2 | ⟨g,cap,cur,h1,h2,h3,h4⟩
 ·exact .inl h2
 ·have hne : g≠mb:=by
   intro e
   rw [e,hb] at h3
   cases h3
  exact .inr ⟨g,cap,cur,h1,h2,(setBlock_far hne).trans h3,h4⟩
theorem map_grown {W W1 : World} {mb base sz n : Nat} {e : TypeId} {v : Value} {xs : List Value} {m : Array MapEntry} {c : Nat} (h : W.ownsRow base e sz v n xs) (hb : W.heap[mb]?=some (.map m c)) (hg : W.grownBy W1 v.ownBlock) : W1.heap[mb]?=some (.map m c):=by
 refine (hg.block mb (Array.getElem?_eq_some_iff.1 hb).1 ?_).trans hb
 intro hv
 rcases h.2 with ⟨rfl,_⟩ | ⟨g,cap,cur,rfl,_,h3,_⟩
 ·cases hv
 ·have : mb=g:=Option.some.inj hv
  rw [← this,hb] at h3
  cases h3
theorem under_vm : Tryz.prog.underlying 193=some (.map 26 4):=Tryz.underlying193
theorem zero_bool (w : World) : (zeroValue 4).run Tryz.prog w=.ok (bv false) w:=by unfold bv; kernel_rfl
def seenM (out : List SV) : List (SV × Bool):=out.map fun s=>(s,true)
theorem seenM_get (out : List SV) (s : SV) : (kget (seenM out) s).getD false=decide (s ∈ out):=by
 induction out with
 | nil=>rfl
 | cons a out ih =>
  by_cases h : s=a
  ·have : kget (seenM (a :: out)) s=some true:=by simp [seenM,kget,h]
   rw [this]
   simp [h]
  ·have : kget (seenM (a :: out)) s=kget (seenM out) s:=by simp [seenM,kget,h]
   rw [this,ih]
   simp [h]
theorem seenM_set {out : List SV} {s : SV} (h : s ∉ out) : kset (seenM out) s true=seenM (out++[s]):=by
 induction out with
 | nil=>rfl
 | cons a out ih =>
  have h1 : s≠a:=fun e=>h (by simp [e])
  have h2 : s ∉ out:=fun e=>h (by simp [e])
  show kset ((a,true) :: seenM out) s true=_
  rw [kset,if_neg h1,ih h2]
  rfl
theorem vm_lookup {W : World} {mb : Nat} {out : List SV} (h : W.heap[mb]?=some (Mo SV.val bv (seenM out))) (s : SV) :
  (Instr.lookup 193 (.map (some mb)) (.agg #[.string s.x,.string s.y,.string s.z]) false).run Tryz.prog W=.ok (.bool (decide (s ∈ out))) W:=by
 have:=mo_lookup (g:=bv) kl_vec under_vm h s false (zero_bool W) false
 rw [seenM_get] at this
 exact this
theorem vm_update {W : World} {mb : Nat} {out : List SV} (h : W.heap[mb]?=some (Mo SV.val bv (seenM out))) {s : SV} (hs : s ∉ out) :
  (Instr.mapUpdate 193 (.map (some mb)) (.agg #[.string s.x,.string s.y,.string s.z]) (.bool true)).run Tryz.prog W=.ok () (setBlock W mb (Mo SV.val bv (seenM (out++[s])))):=by
 have:=mo_update (g:=bv) kl_vec under_vm h s true
 rw [seenM_set hs] at this
 exact this
theorem nub_in {l : List SV} {s : SV} (h : s ∈ nub l) : nub (l++[s])=nub l:=by rw [nub_snoc,nubStep,if_pos h]
theorem nub_out {l : List SV} {s : SV} (h : s ∉ nub l) : nub (l++[s])=nub l++[s]:=by rw [nub_snoc,nubStep,if_neg h]
theorem take_pts {l : List TV} {k : Nat} {t : TV} (hk : l[k]?=some t) : tpts (l.take (k+1))=tpts (l.take k)++[t.a]++[t.b]++[t.c]:=by
 have hlt : k<l.length:=(List.getElem?_eq_some_iff.1 hk).1
 have e : l[k]=t:=(List.getElem?_eq_some_iff.1 hk).2
 rw [List.take_succ_eq_append_getElem hlt,e]
 unfold tpts
 rw [List.flatMap_append]
 simp [Tr.pts]
set_option maxHeartbeats 4000000 in
set_option maxRecDepth 100000 in
theorem points_walk (v : Value) (l : List TV) (w : World) (hB : Bw w) (hv : Ts w v l) (hm : l.length≤1000000) :
  Calls Tryz.prog 75 #[v] w (Ret fun u w'=>Vs w' u (pointsL l)∧Below w.heap.size w w'):=by
 obtain ⟨A,cap,rfl,hn,hc,hcell⟩:=hv.open
 have HCL:=Lib.hid hcell
 have HTE:=Lib.hid (show l.take l.length=l from List.take_length)
 obtain ⟨n,hn0⟩ : ∃ n,n=l.length:=⟨_,rfl⟩
 have HG:=Lib.hid (fun k (hk : k<n)=>(show ∃ t,l[k]?=some t from ⟨_,List.getElem?_eq_getElem (by rw [← hn0]; exact hk)⟩))
 have HNL:=Lib.hid (fun k=>(show (nub (tpts (l.take k))).length≤n * 3 from by
  have h1:=nub_length (tpts (l.take k))
  rw [tpts_length] at h1
  have:=List.length_take_le k l
  have h2 : (l.take k).length≤l.length:=by rw [List.length_take]; omega
  omega))
 rw [← hn0] at hn hm HCL HTE ⊢
 clear hn0 hv hcell
 have ix0:=ix_tri0
 have ix1:=ix_tri1
 have ix2:=ix_tri2
 have hmm:=@run_makeMap Tryz.prog
 go_enter Tryz.func75,Tryz.ntmps75
 go_wp2
 obtain ⟨mb,hmb⟩ : ∃ mb,mb=w.heap.size:=⟨_,rfl⟩
 have h0 : (w.alloc (.map #[] 0)).heap[mb]?=some (Mo SV.val bv (seenM [])):=by rw [hmb]; exact heap_new w _
 have hmb1 : w.heap.size≤mb:=by omega
 rw [← hmb]
 clear hmb hmm
 go_loopw [3,12] (fun ov ii wr=>∃ i : Nat,i≤n∧ii=.int .i64 i∧wr.heap[mb]?=some (Mo SV.val bv (seenM (nub (tpts (l.take i)))))∧Hid (wr.ownsRow w.heap.size 26 3 ov (nub (tpts (l.take i))).length (svs (nub (tpts (l.take i)))))∧Below w.heap.size w wr) (fun _ ii _=>n - (intOf ii).toNat)
 case atStart=>exact ⟨0,Nat.zero_le _,rfl,h0,Lib.hid (World.ownsRow_nil _ _ _ _),ba (br w)⟩
 case round =>
  obtain ⟨i,hi,rfl,hm2,hown,hb⟩:=hrel
  have hsz:=hb.size
  by_cases hlt : i<n
  ·obtain ⟨t,hg⟩:=HG.out i hlt
   obtain ⟨b,off,rfl,hcl⟩:=HCL.out (by omega)
   obtain ⟨c0,c1,c2,c3,c4,c5,c6,c7,c8⟩:=ts_nine (hcl _ _ hg)
   have d0:=cell_below hb c0
   have d1:=cell_below hb c1
   have d2:=cell_below hb c2
   have d3:=cell_below hb c3
   have d4:=cell_below hb c4
   have d5:=cell_below hb c5
   have d6:=cell_below hb c6
   have d7:=cell_below hb c7
   have d8:=cell_below hb c8
   have HE:=Lib.hid (take_pts hg)
   have HL:=Lib.hid (HNL.out i)
   clear hg hcl c0 c1 c2 c3 c4 c5 c6 c7 c8 h0
   obtain ⟨pa,pb,pc⟩:=t
   dsimp only at d0 d1 d2 d3 d4 d5 d6 d7 d8 HE
   have hi0 : (0 : Int)≤(i : Int):=by omega
   have hin : (i : Int)<(n : Int):=by omega
   obtain ⟨es,hes⟩ : ∃ es,es=tpts (l.take i):=⟨_,rfl⟩
   rw [← hes] at hm2 hown HE HL
   clear hes
   have HL0 : Hid ((nub es).length≤3000000):=Lib.hid (by have:=HL.out; omega)
   go_wp2
   obtain ⟨V0,hV0⟩ : ∃ V0,V0=wr.alloc (.cells #[.string pa.x,.string pa.y,.string pa.z,.string pb.x,.string pb.y,.string pb.z,.string pc.x,.string pc.y,.string pc.z] 36):=⟨_,rfl⟩
   rw [← hV0]
   have m0 : V0.heap[mb]?=some (Mo SV.val bv (seenM (nub es))):=by rw [hV0]; exact mp_alloc hm2
   have b0 : Below w.heap.size w V0:=by rw [hV0]; exact ba hb
   have o0 : Hid (V0.ownsRow w.heap.size 26 3 u3 (nub es).length (svs (nub es))):=by rw [hV0]; exact Lib.hid (hown.out.alloc _)
   clear hm2 hb hown hV0 d0 d1 d2 d3 d4 d5 d6 d7 d8
   refine wp_loop_rounds 4 ?_
   rw [rounds_succ]
   go_upto_block 3 with fail
   go_cut [3] (fun sx1 wx=>wx.heap[mb]?=some (Mo SV.val bv (seenM (nub (es++[pa]))))∧Hid (wx.ownsRow w.heap.size 26 3 sx1 (nub (es++[pa])).length (svs (nub (es++[pa]))))∧Below w.heap.size w wx)
   case first =>
    have hsv:=b0.size
    obtain ⟨W,hW⟩ : ∃ W,W=V0.alloc (.cells #[.string pa.x,.string pa.y,.string pa.z] 26):=⟨_,rfl⟩
    have mW : W.heap[mb]?=some (Mo SV.val bv (seenM (nub (es)))):=by rw [hW]; exact mp_alloc m0
    have lk:=vm_lookup mW pa
    have oW : W.ownsRow w.heap.size 26 3 u3 (nub (es)).length (svs (nub (es))):=by rw [hW]; exact o0.out.alloc _
    have bW : Below w.heap.size w W:=by rw [hW]; exact ba b0
    by_cases hin : pa ∈ nub (es)
    ·rw [decide_eq_true hin] at lk
     have HR : Hid (W.heap[mb]?=some (Mo SV.val bv (seenM (nub (es++[pa]))))∧W.ownsRow w.heap.size 26 3 u3 (nub (es++[pa])).length (svs (nub (es++[pa])))∧Below w.heap.size w W):=Lib.hid (by rw [nub_in hin]; exact ⟨mW,oW,bW⟩)
     rw [hW] at lk HR
     clear hin mW oW bW hW
     go_wp2
     go_meet
     exact ⟨HR.out.1,Lib.hid HR.out.2.1,HR.out.2.2⟩
    ·rw [decide_eq_false hin] at lk
     have up:=vm_update mW hin
     obtain ⟨M2,hM2⟩ : ∃ M2,M2=Mo SV.val bv (seenM (nub (es)++[pa])):=⟨_,rfl⟩
     rw [← hM2] at up
     have oX:=own_setBlock (o:=M2) oW mW
     have bX:=below_setBlock bW hmb1 M2
     have hX:=setBlock_heap (o':=M2) mW
     have qX : ∀ c u,W.cell? ⟨V0.heap.size,c,none⟩=some u→(setBlock W mb M2).cell? ⟨V0.heap.size,c,none⟩=some u:=fun c u h=>cell_setBlock mW h
     have x0:=qX 0 (.string pa.x) (by rw [hW]; go_simp)
     have x1:=qX 1 (.string pa.y) (by rw [hW]; go_simp)
     have x2:=qX 2 (.string pa.z) (by rw [hW]; go_simp)
     have HM2:=Lib.hid hM2
     have HNO:=Lib.hid (nub_out hin)
     obtain ⟨X,hX0⟩ : ∃ X,X=setBlock W mb M2:=⟨_,rfl⟩
     rw [← hX0] at up oX bX hX x0 x1 x2
     rw [hW] at lk up
     have HOX:=Lib.hid oX
     have HHX:=Lib.hid hX
     have hsx:=bX.size
     have zV : V0.heap.size<X.heap.size:=World.block_lt_of_cell? X _ x0
     clear hin mW oW bW hM2 qX hX0 oX hX hW
     go_wp2_with (at_builtin; refine append_at (w0:=w) w.heap.size rfl (.tmp 26) (.tmp 28) 59 26 _ 3 48 rfl Tryz.underlying59 info_vec rfl (by omega) (by omega) _ (nub (es)).length 1 (svs (nub (es))) [.string pa.x,.string pa.y,.string pa.z] rfl X.heap.size rfl (by omega) rfl (by simp [Value.oneCell']) (HOX.out.alloc _) (box_at _ _ rfl) (ba bX) (by (try simp)<;>omega) (by have:=HL0.out; omega) ?_; intro v1 w1 hown1 hb1 hg1)
     have HR : Hid (w1.heap[mb]?=some (Mo SV.val bv (seenM (nub (es++[pa]))))∧w1.ownsRow w.heap.size 26 3 v1 (nub (es++[pa])).length (svs (nub (es++[pa])))∧Below w.heap.size w w1):=Lib.hid (by
      rw [HNO.out,List.length_append,svs_append]
      refine ⟨?_,hown1,hb1⟩
      have h5:=HHX.out
      rw [HM2.out] at h5
      exact map_grown (HOX.out.alloc _) (mp_alloc h5) hg1)
     clear hown1 hb1 hg1
     go_wp2
     go_meet
     exact ⟨HR.out.1,Lib.hid HR.out.2.1,HR.out.2.2⟩
   obtain ⟨m1,o1,b1⟩:=hcut
   obtain ⟨V1,hWW⟩ : ∃ x,x=wc:=⟨_,rfl⟩
   subst hWW
   have HL1 : Hid ((nub (es++[pa])).length≤3000001):=Lib.hid (by have:=HL0.out; rw [nub_snoc]; unfold nubStep; split<;>(try rw [List.length_append])<;>(try simp only [List.length_singleton])<;>omega)
   go_wp2
   rw [rounds_succ]
   go_upto_block 3 with fail
   go_cut [3] (fun sx2 wx=>wx.heap[mb]?=some (Mo SV.val bv (seenM (nub (es++[pa]++[pb]))))∧Hid (wx.ownsRow w.heap.size 26 3 sx2 (nub (es++[pa]++[pb])).length (svs (nub (es++[pa]++[pb]))))∧Below w.heap.size w wx)
   case first =>
    have hsv:=b1.size
    obtain ⟨W,hW⟩ : ∃ W,W=V1.alloc (.cells #[.string pb.x,.string pb.y,.string pb.z] 26):=⟨_,rfl⟩
    have mW : W.heap[mb]?=some (Mo SV.val bv (seenM (nub (es++[pa])))):=by rw [hW]; exact mp_alloc m1
    have lk:=vm_lookup mW pb
    have oW : W.ownsRow w.heap.size 26 3 u3 (nub (es++[pa])).length (svs (nub (es++[pa]))):=by rw [hW]; exact o1.out.alloc _
    have bW : Below w.heap.size w W:=by rw [hW]; exact ba b1
    by_cases hin : pb ∈ nub (es++[pa])
    ·rw [decide_eq_true hin] at lk
     have HR : Hid (W.heap[mb]?=some (Mo SV.val bv (seenM (nub (es++[pa]++[pb]))))∧W.ownsRow w.heap.size 26 3 u3 (nub (es++[pa]++[pb])).length (svs (nub (es++[pa]++[pb])))∧Below w.heap.size w W):=Lib.hid (by rw [nub_in hin]; exact ⟨mW,oW,bW⟩)
     rw [hW] at lk HR
     clear hin mW oW bW hW
     go_wp2
     go_meet
     exact ⟨HR.out.1,Lib.hid HR.out.2.1,HR.out.2.2⟩
    ·rw [decide_eq_false hin] at lk
     have up:=vm_update mW hin
     obtain ⟨M2,hM2⟩ : ∃ M2,M2=Mo SV.val bv (seenM (nub (es++[pa])++[pb])):=⟨_,rfl⟩
     rw [← hM2] at up
     have oX:=own_setBlock (o:=M2) oW mW
     have bX:=below_setBlock bW hmb1 M2
     have hX:=setBlock_heap (o':=M2) mW
     have qX : ∀ c u,W.cell? ⟨V1.heap.size,c,none⟩=some u→(setBlock W mb M2).cell? ⟨V1.heap.size,c,none⟩=some u:=fun c u h=>cell_setBlock mW h
     have x0:=qX 0 (.string pb.x) (by rw [hW]; go_simp)
     have x1:=qX 1 (.string pb.y) (by rw [hW]; go_simp)
     have x2:=qX 2 (.string pb.z) (by rw [hW]; go_simp)
     have HM2:=Lib.hid hM2
     have HNO:=Lib.hid (nub_out hin)
     obtain ⟨X,hX0⟩ : ∃ X,X=setBlock W mb M2:=⟨_,rfl⟩
     rw [← hX0] at up oX bX hX x0 x1 x2
     rw [hW] at lk up
     have HOX:=Lib.hid oX
     have HHX:=Lib.hid hX
     have hsx:=bX.size
     have zV : V1.heap.size<X.heap.size:=World.block_lt_of_cell? X _ x0
     clear hin mW oW bW hM2 qX hX0 oX hX hW
     go_wp2_with (at_builtin; refine append_at (w0:=w) w.heap.size rfl (.tmp 26) (.tmp 28) 59 26 _ 3 48 rfl Tryz.underlying59 info_vec rfl (by omega) (by omega) _ (nub (es++[pa])).length 1 (svs (nub (es++[pa]))) [.string pb.x,.string pb.y,.string pb.z] rfl X.heap.size rfl (by omega) rfl (by simp [Value.oneCell']) (HOX.out.alloc _) (box_at _ _ rfl) (ba bX) (by (try simp)<;>omega) (by have:=HL1.out; omega) ?_; intro v1 w1 hown1 hb1 hg1)
     have HR : Hid (w1.heap[mb]?=some (Mo SV.val bv (seenM (nub (es++[pa]++[pb]))))∧w1.ownsRow w.heap.size 26 3 v1 (nub (es++[pa]++[pb])).length (svs (nub (es++[pa]++[pb])))∧Below w.heap.size w w1):=Lib.hid (by
      rw [HNO.out,List.length_append,svs_append]
      refine ⟨?_,hown1,hb1⟩
      have h5:=HHX.out
      rw [HM2.out] at h5
      exact map_grown (HOX.out.alloc _) (mp_alloc h5) hg1)
     clear hown1 hb1 hg1
     go_wp2
     go_meet
     exact ⟨HR.out.1,Lib.hid HR.out.2.1,HR.out.2.2⟩
   obtain ⟨m2,o2,b2⟩:=hcut
   obtain ⟨V2,hWW⟩ : ∃ x,x=wc:=⟨_,rfl⟩
   subst hWW
   have HL2 : Hid ((nub (es++[pa]++[pb])).length≤3000002):=Lib.hid (by have:=HL1.out; rw [nub_snoc]; unfold nubStep; split<;>(try rw [List.length_append])<;>(try simp only [List.length_singleton])<;>omega)
   go_wp2
   rw [rounds_succ]
   go_upto_block 3 with fail
   go_cut [3] (fun sx3 wx=>wx.heap[mb]?=some (Mo SV.val bv (seenM (nub (es++[pa]++[pb]++[pc]))))∧Hid (wx.ownsRow w.heap.size 26 3 sx3 (nub (es++[pa]++[pb]++[pc])).length (svs (nub (es++[pa]++[pb]++[pc]))))∧Below w.heap.size w wx)
   case first =>
    have hsv:=b2.size
    obtain ⟨W,hW⟩ : ∃ W,W=V2.alloc (.cells #[.string pc.x,.string pc.y,.string pc.z] 26):=⟨_,rfl⟩
    have mW : W.heap[mb]?=some (Mo SV.val bv (seenM (nub (es++[pa]++[pb])))):=by rw [hW]; exact mp_alloc m2
    have lk:=vm_lookup mW pc
    have oW : W.ownsRow w.heap.size 26 3 u3 (nub (es++[pa]++[pb])).length (svs (nub (es++[pa]++[pb]))):=by rw [hW]; exact o2.out.alloc _
    have bW : Below w.heap.size w W:=by rw [hW]; exact ba b2
    by_cases hin : pc ∈ nub (es++[pa]++[pb])
    ·rw [decide_eq_true hin] at lk
     have HR : Hid (W.heap[mb]?=some (Mo SV.val bv (seenM (nub (es++[pa]++[pb]++[pc]))))∧W.ownsRow w.heap.size 26 3 u3 (nub (es++[pa]++[pb]++[pc])).length (svs (nub (es++[pa]++[pb]++[pc])))∧Below w.heap.size w W):=Lib.hid (by rw [nub_in hin]; exact ⟨mW,oW,bW⟩)
     rw [hW] at lk HR
     clear hin mW oW bW hW
     go_wp2
     go_meet
     exact ⟨HR.out.1,Lib.hid HR.out.2.1,HR.out.2.2⟩
    ·rw [decide_eq_false hin] at lk
     have up:=vm_update mW hin
     obtain ⟨M2,hM2⟩ : ∃ M2,M2=Mo SV.val bv (seenM (nub (es++[pa]++[pb])++[pc])):=⟨_,rfl⟩
     rw [← hM2] at up
     have oX:=own_setBlock (o:=M2) oW mW
     have bX:=below_setBlock bW hmb1 M2
     have hX:=setBlock_heap (o':=M2) mW
     have qX : ∀ c u,W.cell? ⟨V2.heap.size,c,none⟩=some u→(setBlock W mb M2).cell? ⟨V2.heap.size,c,none⟩=some u:=fun c u h=>cell_setBlock mW h
     have x0:=qX 0 (.string pc.x) (by rw [hW]; go_simp)
     have x1:=qX 1 (.string pc.y) (by rw [hW]; go_simp)
     have x2:=qX 2 (.string pc.z) (by rw [hW]; go_simp)
     have HM2:=Lib.hid hM2
     have HNO:=Lib.hid (nub_out hin)
     obtain ⟨X,hX0⟩ : ∃ X,X=setBlock W mb M2:=⟨_,rfl⟩
     rw [← hX0] at up oX bX hX x0 x1 x2
     rw [hW] at lk up
     have HOX:=Lib.hid oX
     have HHX:=Lib.hid hX
     have hsx:=bX.size
     have zV : V2.heap.size<X.heap.size:=World.block_lt_of_cell? X _ x0
     clear hin mW oW bW hM2 qX hX0 oX hX hW
     go_wp2_with (at_builtin; refine append_at (w0:=w) w.heap.size rfl (.tmp 26) (.tmp 28) 59 26 _ 3 48 rfl Tryz.underlying59 info_vec rfl (by omega) (by omega) _ (nub (es++[pa]++[pb])).length 1 (svs (nub (es++[pa]++[pb]))) [.string pc.x,.string pc.y,.string pc.z] rfl X.heap.size rfl (by omega) rfl (by simp [Value.oneCell']) (HOX.out.alloc _) (box_at _ _ rfl) (ba bX) (by (try simp)<;>omega) (by have:=HL2.out; omega) ?_; intro v1 w1 hown1 hb1 hg1)
     have HR : Hid (w1.heap[mb]?=some (Mo SV.val bv (seenM (nub (es++[pa]++[pb]++[pc]))))∧w1.ownsRow w.heap.size 26 3 v1 (nub (es++[pa]++[pb]++[pc])).length (svs (nub (es++[pa]++[pb]++[pc])))∧Below w.heap.size w w1):=Lib.hid (by
      rw [HNO.out,List.length_append,svs_append]
      refine ⟨?_,hown1,hb1⟩
      have h5:=HHX.out
      rw [HM2.out] at h5
      exact map_grown (HOX.out.alloc _) (mp_alloc h5) hg1)
     clear hown1 hb1 hg1
     go_wp2
     go_meet
     exact ⟨HR.out.1,Lib.hid HR.out.2.1,HR.out.2.2⟩
   obtain ⟨m3,o3,b3⟩:=hcut
   obtain ⟨V3,hWW⟩ : ∃ x,x=wc:=⟨_,rfl⟩
   subst hWW
   have HL3 : Hid ((nub (es++[pa]++[pb]++[pc])).length≤3000003):=Lib.hid (by have:=HL2.out; rw [nub_snoc]; unfold nubStep; split<;>(try rw [List.length_append])<;>(try simp only [List.length_singleton])<;>omega)
   go_wp2
   rw [rounds_succ]
   go_wp2
   go_roundw
   case rel=>exact ⟨i+1,by omega,by go_num,by rw [HE.out]; exact m3,by rw [HE.out]; exact o3,b3⟩
   case measure=>simp [intOf]; omega
  ·obtain rfl : i=n:=by omega
   rw [HTE.out] at hown
   have HV : Hid (Vs wr u3 (pointsL l)):=Lib.hid (Vs.own hown.out)
   clear hown
   go_wp2
   go_ret
   exact ⟨_,rfl,HV.out,hb⟩
end Go.Proofs.YtopfedbhkfdjkaaGreatDoor

namespace Go.Proofs.YtopfedbhkfdjkaaGreatDoor
open Go Go.RowKit
set_option maxHeartbeats 1000000 in
theorem mPoints_ok (v : Value) (l : List TV) (w : World) (hB : Bw w) (hv : Ts w v l) (hs : tle l 40000000) (hz : chkC l=0) :
  Calls Tryz.prog 38 #[v] w (Ret fun r w'=>(∃ u,r=.tuple #[u,.int .i64 0]∧Vs w' u (pointsL l))∧Below w.heap.size w w'):=by
 have H:=Lib.hid (fun w hB hv=>check_walk v l w hB hv hs)
 have hp:=chkC_zero hz
 have H2:=Lib.hid (fun w hB hv=>points_walk v l w hB hv (by omega))
 rw [hz] at H
 obtain ⟨A,cap,rfl,hn,hc,hcell⟩:=hv.open
 clear hcell hn hc hs hz hp
 go_enter Tryz.func38,Tryz.ntmps38
 go_wp2_with fail
 refine (H.out _ (hB.below bel) (hv.below bel)).mono ?_
 rintro e w1 ⟨rfl,g1⟩
 have B1:=bn (w:=w) bel g1
 clear g1
 go_wp2_with fail
 refine (H2.out _ (hB.below bel) (hv.below bel)).mono ?_
 rintro e w2 ⟨u,rfl,hu,g2⟩
 have B2:=bn (w:=w) bel g2
 clear g2
 obtain ⟨A2,cap2,rfl, -, -, -⟩:=hu.open
 go_wp2
 go_ret2
 exact ⟨_,rfl,⟨_,rfl,hu⟩,bel⟩
end Go.Proofs.YtopfedbhkfdjkaaGreatDoor

namespace Go.Proofs.YtopfedbhkfdjkaaGreatDoor
open Go Go.RowKit
def under (ps : List V3) (t : Tr V3) : Bool:=decide (thrN t.a t.b t.c=V3.zero) || ps.all fun p=>decide ((thrP t.a t.b t.c).height p≤0)
theorem convexL_eq (L : List (Tr V3)) : convexL L=L.all (under (pointsL L)):=rfl
theorem rsg_pos {x : Rat} (h : 0<rsg x) : ¬ x≤0:=by
 unfold rsg rcmp at h
 intro hx
 by_cases h1 : x<0
 ·rw [if_pos h1] at h; omega
 ·by_cases h2 : x=0
  ·rw [if_neg h1,if_pos h2] at h; omega
  ·exact h2 (by grind)
theorem rsg_npos {x : Rat} (h : ¬ 0<rsg x) : x≤0:=by
 unfold rsg rcmp at h
 by_cases h1 : x<0
 ·grind
 ·by_cases h2 : x=0
  ·grind
  ·rw [if_neg h1,if_neg h2] at h
   omega
theorem points_txt (L : List (Tr V3)) : pointsL (L.map txt)=tvs (pointsL L):=pointsL_map (f:=txv) txv_apart L
theorem mem_points {L : List (Tr V3)} {k : Nat} (h : ∀ t ∈ L,t.a.le k∧t.b.le k∧t.c.le k) : ∀ p ∈ pointsL L,p.le k:=by
 intro p hp
 unfold pointsL at hp
 rw [mem_nub] at hp
 unfold tpts at hp
 obtain ⟨t,ht,hp⟩:=List.mem_flatMap.1 hp
 simp only [Tr.pts,List.mem_cons,List.not_mem_nil,or_false] at hp
 obtain ⟨h1,h2,h3⟩:=h t ht
 rcases hp with rfl | rfl | rfl
 ·exact h1
 ·exact h2
 ·exact h3
set_option maxHeartbeats 4000000 in
set_option maxRecDepth 100000 in
theorem convex_walk (v : Value) (L : List (Tr V3)) (w : World) (hB : Bw w) (hv : Ts w v (L.map txt)) (hs : ∀ t ∈ L,t.a.le 30000∧t.b.le 30000∧t.c.le 30000) (hz : chkC (L.map txt)=0) :
  Calls Tryz.prog 41 #[v] w fun e w'=>e=.returned (.tuple #[.bool (convexL L),.int .i64 0])∧Below w.heap.size w w':=by
 have hle:=tle_txt hs (show 2 * 30000+2≤40000000 by omega)
 have hp:=chkC_zero hz
 have hlen : (L.map txt).length=L.length:=List.length_map _
 have H1:=Lib.hid (fun w hB hv=>check_walk v (L.map txt) w hB hv hle)
 have H2:=Lib.hid (fun w hB hv=>points_walk v (L.map txt) w hB hv (by omega))
 rw [hz] at H1
 rw [points_txt] at H2
 have HB:=Lib.hid (mem_points hs)
 have HS:=Lib.hid hs
 have HV:=Lib.hid hv
 obtain ⟨A,cap,rfl,hn,hc,hcell⟩:=hv.open
 have HCL:=Lib.hid hcell
 rw [hlen] at hn H1 H2 HCL HV ⊢
 have hn512 : L.length≤512:=by omega
 clear hcell hp hlen hz hle hs hv
 obtain ⟨n,hn0⟩ : ∃ n,n=L.length:=⟨_,rfl⟩
 have HG:=Lib.hid (fun k (hk : k<n)=>(show ∃ t,L[k]?=some t from ⟨_,List.getElem?_eq_getElem (by rw [← hn0]; exact hk)⟩))
 have HTE:=Lib.hid (show L.take L.length=L from List.take_length)
 have HN0:=Lib.hid hn0
 rw [← hn0] at hn H1 H2 HCL HV HTE hn512 ⊢
 clear hn0
 have HCX:=Lib.hid (convexL_eq L)
 obtain ⟨ps,hps⟩ : ∃ ps,ps=pointsL L:=⟨_,rfl⟩
 rw [← hps] at H2 HB HCX
 clear hps
 go_enter Tryz.func41,Tryz.ntmps41
 go_wp2_with fail
 refine (H1.out _ (hB.below bel) (HV.out.below bel)).mono ?_
 rintro e w1 ⟨rfl,g1⟩
 have B1:=bn (w:=w) bel g1
 clear g1
 go_wp2_with fail
 refine (H2.out _ (hB.below bel) (HV.out.below bel)).mono ?_
 rintro e w2 ⟨u,rfl,hu,g2⟩
 have B2:=bn (w:=w) bel g2
 clear g2
 obtain ⟨Ap,capp,rfl,hnp,hcp,hcellp⟩:=hu.open
 rw [tvs_length] at *
 have HCP:=Lib.hid hcellp
 have HPE:=Lib.hid (show ps.take ps.length=ps from List.take_length)
 have HGP:=Lib.hid (fun j (hj : j<ps.length)=>(show ∃ p,ps[j]?=some p from ⟨_,List.getElem?_eq_getElem hj⟩))
 obtain ⟨m,hm0⟩ : ∃ m,m=ps.length:=⟨_,rfl⟩
 rw [← hm0] at hnp HCP HPE HGP ⊢
 clear hm0 hcellp hu
 go_wp2
 go_loopw [23] (fun ii wr=>∃ i : Nat,i≤n∧ii=.int .i64 i∧Hid ((L.take i).all (under ps)=true)∧Below w2.heap.size w2 wr) (fun ii _=>n - (intOf ii).toNat)
 case atStart=>exact ⟨0,Nat.zero_le _,rfl,Lib.hid rfl,Below.refl _ _⟩
 case round =>
  obtain ⟨i,hi,rfl,hd,hb⟩:=hrel
  have hsz:=hb.size
  have hbw : Below w.heap.size w wr:=bn B2 hb
  by_cases hlt : i<n
  ·obtain ⟨t,hg⟩:=HG.out i hlt
   obtain ⟨b,off,rfl,hcl⟩:=HCL.out (by omega)
   have hgt : (L.map txt)[i]?=some (txt t):=by rw [List.getElem?_map,hg]; rfl
   obtain ⟨c0,c1,c2,c3,c4,c5,c6,c7,c8⟩:=ts_nine (hcl _ _ hgt)
   obtain ⟨l1,l2,l3⟩:=HS.out t (List.mem_of_getElem? hg)
   have HTH:=Lib.hid (fun w hB=>vThrough_walk t.a t.b t.c (l1.mono (by omega)) (l2.mono (by omega)) (l3.mono (by omega)) w hB)
   have HSI:=Lib.hid (fun (hz : thrN t.a t.b t.c≠V3.zero) p (hp : p ∈ ps) w hB=>vSide_walk (thrP t.a t.b t.c) p hz (thrP_le l1 l2 l3 (by omega)) ((HB.out p hp).mono (by omega)) w hB)
   have HGD:=Lib.hid (fun (h : under ps t=true)=>take_all hg hd.out h)
   have HBD : Hid (under ps t=false→convexL L=false):=Lib.hid (fun h=>by rw [HCX.out]; exact List.all_eq_false.2 ⟨t,List.mem_of_getElem? hg,by rw [h]; decide⟩)
   have d0:=cell_below hbw c0
   have d1:=cell_below hbw c1
   have d2:=cell_below hbw c2
   have d3:=cell_below hbw c3
   have d4:=cell_below hbw c4
   have d5:=cell_below hbw c5
   have d6:=cell_below hbw c6
   have d7:=cell_below hbw c7
   have d8:=cell_below hbw c8
   clear hg hgt hcl l1 l2 l3 hd c0 c1 c2 c3 c4 c5 c6 c7 c8
   obtain ⟨ta,tb,tc⟩:=t
   have hi0 : (0 : Int)≤(i : Int):=by omega
   have hin : (i : Int)<(n : Int):=by omega
   simp only [txt,Tr.map,txv] at d0 d1 d2 d3 d4 d5 d6 d7 d8
   dsimp only at HTH HSI
   rw [VV_eq ta,VV_eq tb,VV_eq tc] at HTH
   generalize rtx ta.x=ax at *
   generalize rtx ta.y=ay at *
   generalize rtx ta.z=az at *
   generalize rtx tb.x=bx at *
   generalize rtx tb.y=by1 at *
   generalize rtx tb.z=bz at *
   generalize rtx tc.x=cx at *
   generalize rtx tc.y=cy at *
   generalize rtx tc.z=cz at *
   by_cases hz : thrN ta tb tc=V3.zero
   ·have E:=Lib.hid (HGD.out (by unfold under; simp [hz]))
    have e1 : thrE ta tb tc=16:=if_pos hz
    have e2 : thrV ta tb tc=.agg #[.string ⟨#[]⟩,.string ⟨#[]⟩,.string ⟨#[]⟩,.string ⟨#[]⟩]:=if_pos hz
    rw [e1,e2] at HTH
    clear HSI HGD HBD hz e1 e2
    go_wp2_with fail
    refine (HTH.out _ (hB.below bel)).mono ?_
    rintro e w3 ⟨rfl,g3⟩
    have hb3 : Below w2.heap.size w2 w3:=bn bel g3
    have hsz3:=hb3.size
    clear g3
    go_wp2
    go_roundw
    case rel=>exact ⟨i+1,by omega,by go_num,E,bel⟩
    case measure=>simp [intOf]; omega
   ·have e1 : thrE ta tb tc=0:=if_neg hz
    have e2 : thrV ta tb tc=PV (thrP ta tb tc):=if_neg hz
    have HSI2:=Lib.hid (fun p hp=>HSI.out hz p hp)
    have HGD2 : Hid ((∀ p ∈ ps,(thrP ta tb tc).height p≤0)→(L.take (i+1)).all (under ps)=true):=Lib.hid (fun h=>HGD.out (by
     unfold under
     rw [Bool.or_eq_true]
     right
     rw [List.all_eq_true]
     intro p hp
     exact decide_eq_true (h p hp)))
    have HBD2 : Hid (∀ p ∈ ps,¬ (thrP ta tb tc).height p≤0→convexL L=false):=Lib.hid (fun p hp h=>HBD.out (by
     unfold under
     rw [decide_eq_false hz,Bool.false_or]
     exact List.all_eq_false.2 ⟨p,hp,by simpa using h⟩))
    rw [e1,e2,PV_eq] at HTH
    clear HSI HGD HBD hz e1 e2
    rw [PV_eq] at HSI2
    generalize rtx (thrP ta tb tc).n.x=q1 at *
    generalize rtx (thrP ta tb tc).n.y=q2 at *
    generalize rtx (thrP ta tb tc).n.z=q3 at *
    generalize rtx (thrP ta tb tc).c=q4 at *
    go_wp2_with fail
    refine (HTH.out _ (hB.below bel)).mono ?_
    rintro e w3 ⟨rfl,g3⟩
    have hb3 : Below w2.heap.size w2 w3:=bn bel g3
    have hsz3:=hb3.size
    clear g3
    go_wp2
    obtain ⟨W,hW⟩ : ∃ W,W=w3.alloc (.cells #[.string q1,.string q2,.string q3,.string q4] 28):=⟨_,rfl⟩
    have p0 : W.cell? ⟨w3.heap.size,0,none⟩=some (.string q1):=by rw [hW]; go_simp
    have p1 : W.cell? ⟨w3.heap.size,1,none⟩=some (.string q2):=by rw [hW]; go_simp
    have p2 : W.cell? ⟨w3.heap.size,2,none⟩=some (.string q3):=by rw [hW]; go_simp
    have p3 : W.cell? ⟨w3.heap.size,3,none⟩=some (.string q4):=by rw [hW]; go_simp
    have bW : Below w2.heap.size w2 W:=by rw [hW]; exact ba hb3
    have bWw : Below w.heap.size w W:=bn B2 bW
    rw [← hW]
    clear hW d0 d1 d2 d3 d4 d5 d6 d7 d8
    obtain ⟨wo,hwo⟩ : ∃ x,x=wr:=⟨_,rfl⟩
    subst hwo
    go_loopw [41] (fun jj wr=>∃ j : Nat,j≤m∧jj=.int .i64 j∧Hid (∀ p ∈ ps.take j,(thrP ta tb tc).height p≤0)∧Below W.heap.size W wr) (fun jj _=>m - (intOf jj).toNat)
    case atStart=>exact ⟨0,Nat.zero_le _,rfl,Lib.hid (by simp),Below.refl _ _⟩
    case round =>
     obtain ⟨j,hj,rfl,hh,hb5⟩:=hrel
     have hsz5:=hb5.size
     have hbw5 : Below w.heap.size w wr:=bn bWw hb5
     have hb25 : Below w2.heap.size w2 wr:=bn bW hb5
     by_cases hlt2 : j<m
     ·obtain ⟨pt,hg⟩:=HGP.out j hlt2
      obtain ⟨b3,off3,rfl,hcl3⟩:=HCP.out (by omega)
      have hgp : (tvs ps)[j]?=some (txv pt):=by unfold tvs; rw [List.getElem?_map,hg]; rfl
      obtain ⟨x0,x1,x2⟩:=hcl3 _ _ hgp
      have y0:=cell_below hb25 x0
      have y1:=cell_below hb25 x1
      have y2:=cell_below hb25 x2
      have z0:=cell_below hb5 p0
      have z1:=cell_below hb5 p1
      have z2:=cell_below hb5 p2
      have z3:=cell_below hb5 p3
      have zl : w3.heap.size<wr.heap.size:=World.block_lt_of_cell? wr _ z0
      have HSD:=Lib.hid (fun w hB=>HSI2.out pt (List.mem_of_getElem? hg) w hB)
      have HN1 : Hid (0<rsg ((thrP ta tb tc).height pt)→convexL L=false):=Lib.hid (fun h=>HBD2.out pt (List.mem_of_getElem? hg) (rsg_pos h))
      have HN2 : Hid (¬ 0<rsg ((thrP ta tb tc).height pt)→∀ p ∈ ps.take (j+1),(thrP ta tb tc).height p≤0):=Lib.hid (fun h p hp=>by
       have hlt3 : j<ps.length:=(List.getElem?_eq_some_iff.1 hg).1
       have e : ps[j]=pt:=(List.getElem?_eq_some_iff.1 hg).2
       rw [List.take_succ_eq_append_getElem hlt3,e] at hp
       rcases List.mem_append.1 hp with hp | hp
       ·exact hh.out p hp
       ·simp at hp
        rw [hp]
        exact rsg_npos h)
      have hj0 : (0 : Int)≤(j : Int):=by omega
      have hjm : (j : Int)<(m : Int):=by omega
      clear x0 x1 x2 hgp hg hcl3 hh
      simp only [txv] at y0 y1 y2
      rw [VV_eq pt] at HSD
      generalize rtx pt.x=o1 at *
      generalize rtx pt.y=o2 at *
      generalize rtx pt.z=o3 at *
      generalize rsg ((thrP ta tb tc).height pt)=s at *
      go_wp2_with fail
      refine (HSD.out _ (hB.below bel)).mono ?_
      rintro e w6 ⟨rfl,g6⟩
      have hb6 : Below W.heap.size W w6:=bn bel g6
      have hbw6 : Below w.heap.size w w6:=bn bWw hb6
      clear g6
      by_cases hsp : 0<s
      ·have E:=Lib.hid (HN1.out hsp)
       clear HN1 HN2
       go_wp2
       go_ret2
       exact ⟨by rw [E.out]; rfl,hbw6⟩
      ·have E:=Lib.hid (HN2.out (Int.not_lt.1 hsp))
       have hsp2 : s≤0:=by omega
       clear HN1 HN2
       go_wp2
       go_roundw
       case rel=>exact ⟨j+1,by omega,by go_num,E,hb6⟩
       case measure=>simp [intOf]; omega
     ·obtain rfl : j=m:=by omega
      rw [HPE.out] at hh
      have E:=Lib.hid (HGD2.out hh.out)
      clear hh
      go_wp2
      go_roundw
      case rel=>exact ⟨i+1,by omega,by go_num,E,hb25⟩
      case measure=>simp [intOf]; omega
  ·obtain rfl : i=n:=by omega
   rw [HTE.out] at hd
   have E : Hid (convexL L=true):=Lib.hid (by rw [HCX.out]; exact hd.out)
   clear hd
   go_wp2
   go_ret2
   exact ⟨by rw [E.out]; rfl,bel⟩
end Go.Proofs.YtopfedbhkfdjkaaGreatDoor

namespace Go.Proofs.YtopfedbhkfdjkaaGreatDoor
open Go Go.RowKit
section
variable {α β : Type}
theorem mem_tpts_iff {l : List (Tr α)} {y : α} : y ∈ tpts l↔∃ t ∈ l,y=t.a∨y=t.b∨y=t.c:=by
 unfold tpts
 rw [List.mem_flatMap]
 constructor
 ·rintro ⟨t,ht,h⟩
  simp only [Tr.pts,List.mem_cons,List.not_mem_nil,or_false] at h
  exact ⟨t,ht,h⟩
 ·rintro ⟨t,ht,h⟩
  exact ⟨t,ht,by simp only [Tr.pts,List.mem_cons,List.not_mem_nil,or_false]; exact h⟩
variable [DecidableEq α] [DecidableEq β]
end
end Go.Proofs.YtopfedbhkfdjkaaGreatDoor

namespace Go.Proofs.YtopfedbhkfdjkaaGreatDoor
open Go Go.RowKit
open Go.ChangeMaps (setBlock)
theorem under_lm : Tryz.prog.underlying 194=some (.map 26 26):=Tryz.underlying194
def zsv : SV:=⟨⟨#[]⟩,⟨#[]⟩,⟨#[]⟩⟩
theorem zero_vec (w : World) : (zeroValue 26).run Tryz.prog w=.ok (SV.val zsv) w:=by unfold zsv SV.val; kernel_rfl
theorem lm_look {W : World} {mb : Nat} {L : List (SV × SV)} (h : W.heap[mb]?=some (Mo SV.val SV.val L)) (s : SV) (c : Bool) :
  (Instr.lookup 194 (.map (some mb)) (.agg #[.string s.x,.string s.y,.string s.z]) c).run Tryz.prog W=.ok (if c then .tuple #[SV.val ((kget L s).getD zsv),.bool (kget L s).isSome] else SV.val ((kget L s).getD zsv)) W :=
 mo_lookup (g:=SV.val) kl_vec under_lm h s zsv (zero_vec W) c
theorem lm_update {W : World} {mb : Nat} {L : List (SV × SV)} (h : W.heap[mb]?=some (Mo SV.val SV.val L)) (s r : SV) :
  (Instr.mapUpdate 194 (.map (some mb)) (.agg #[.string s.x,.string s.y,.string s.z]) (.agg #[.string r.x,.string r.y,.string r.z])).run Tryz.prog W=.ok () (setBlock W mb (Mo SV.val SV.val (kset L s r))) :=
 mo_update (g:=SV.val) kl_vec under_lm h s r
def GK (W : World) (mb : Nat) (W1 : World) : Prop:=W.grownBy W1 (some mb)
theorem gk_refl (W : World) (mb : Nat) : GK W mb W:=⟨rfl,rfl,rfl,Nat.le_refl _,fun _ _ _=>rfl⟩
theorem gk_drew {W W1 : World} {mb : Nat} (h : GK W mb W1) : GK W mb W1.drew:=⟨h.os,h.tape,h.output,h.size,h.block⟩
theorem gk_set {W W1 : World} {mb : Nat} {o : Obj} (h : GK W mb W1) : GK W mb (setBlock W1 mb o) :=
 ⟨h.os,h.tape,h.output,by rw [setBlock_size]; exact h.size,fun i hi hne=>(setBlock_far (fun e=>hne (by rw [e]))).trans (h.block i hi hne)⟩
theorem gk_trans {W W1 W2 : World} {mb : Nat} (h : GK W mb W1) (g : GK W1 mb W2) : GK W mb W2 :=
 ⟨g.os.trans h.os,g.tape.trans h.tape,g.output.trans h.output,Nat.le_trans h.size g.size,fun i hi hne=>(g.block i (Nat.lt_of_lt_of_le hi h.size) hne).trans (h.block i hi hne)⟩
theorem gk_below {W W1 W2 : World} {mb : Nat} (h : GK W mb W1) (g : Below W.heap.size W1 W2) : GK W mb W2 :=
 ⟨g.os.trans h.os,g.tape.trans h.tape,g.output.trans h.output,Nat.le_trans h.size g.size,fun i hi hne=>(g.block i hi).trans (h.block i hi hne)⟩
theorem gk_alloc {W W1 : World} {mb : Nat} {o : Obj} (h : GK W mb W1) : GK W mb (W1.alloc o):=gk_below h ((Below.refl _ _).alloc h.size o)
theorem GK.cell {W W1 : World} {mb : Nat} (h : GK W mb W1) {p : Addr} {v : Value} (hc : W.cell? p=some v) (hp : p.block≠mb) : W1.cell? p=some v :=
 (World.cell?_of_block (h.block p.block (World.block_lt_of_cell? W p hc) (fun e=>hp (Option.some.inj e)))).trans hc
theorem GK.frozen {W W1 : World} {mb : Nat} (h : GK W mb W1) {p : Addr} (hlt : p.block<W.heap.size) (hp : p.block≠mb) (hf : W.frozen? p=false) : W1.frozen? p=false :=
 (World.frozen?_of_block (h.block p.block hlt (fun e=>hp (Option.some.inj e)))).trans hf
theorem GK.to_below {W W1 : World} {mb B : Nat} (h : GK W mb W1) (h1 : B≤mb) (h2 : B≤W.heap.size) : Below B W W1 :=
 ⟨h.os,h.tape,h.output,h.size,fun i hi=>h.block i (Nat.lt_of_lt_of_le hi h2) (fun e=>by cases e; omega)⟩
def fv (lb fb : Nat) : Value:=.func (.func 123) #[] #[.pointer (some ⟨lb,0,none⟩),.pointer (some ⟨fb,0,none⟩)]
structure FS (W : World) (lb fb mb : Nat) (L : List (SV × SV)) : Prop where
 map : W.cell? ⟨lb,0,none⟩=some (.map (some mb))
 self : W.cell? ⟨fb,0,none⟩=some (fv lb fb)
 here : W.heap[mb]?=some (Mo SV.val SV.val L)
 lm : lb≠mb
 fm : fb≠mb
theorem FS.gk {W W1 : World} {lb fb mb : Nat} {L L1 : List (SV × SV)} (h : FS W lb fb mb L) (g : GK W mb W1) (h1 : W1.heap[mb]?=some (Mo SV.val SV.val L1)) : FS W1 lb fb mb L1 :=
 ⟨g.cell h.map h.lm,g.cell h.self h.fm,h1,h.lm,h.fm⟩
def FindOk (ρ : SV→Nat) (R : List (SV × SV)) (lb fb mb : Nat) (p : SV) : Prop:=∀ (W : World) (L : List (SV × SV)),UF ρ L R→FS W lb fb mb L →
 Calls Tryz.prog 123 #[p.val,.pointer (some ⟨lb,0,none⟩),.pointer (some ⟨fb,0,none⟩)] W fun e w'=>e=.returned (rootOf (touch R p) p).val∧∃ L',UF ρ L' (touch R p)∧w'.heap[mb]?=some (Mo SV.val SV.val L')∧GK W mb w'
theorem cell_far2 {W W1 : World} {b : Nat} (h : W1.heap[b]?=W.heap[b]?) {c : Nat} {v : Value} (hc : W.cell? ⟨b,c,none⟩=some v) : W1.cell? ⟨b,c,none⟩=some v:=(World.cell?_of_block (a:=⟨b,c,none⟩) h).trans hc
theorem frozen_far {W W1 : World} {b : Nat} (h : W1.heap[b]?=W.heap[b]?) {c : Nat} {r : Bool} (hf : W.frozen? ⟨b,c,none⟩=r) : W1.frozen? ⟨b,c,none⟩=r:=(World.frozen?_of_block (a:=⟨b,c,none⟩) h).trans hf
set_option maxHeartbeats 4000000 in
set_option maxRecDepth 100000 in
theorem find_end (lb fb mb : Nat) (p q : SV) (b : Bool) (W : World) (L : List (SV × SV)) (hk : (Instr.lookup 194 (.map (some mb)) (.agg #[.string p.x,.string p.y,.string p.z]) true).run Tryz.prog ((W.alloc (.cells #[.string p.x,.string p.y,.string p.z] 26)).alloc (.cells #[.string ⟨#[]⟩,.string ⟨#[]⟩,.string ⟨#[]⟩] 26))=.ok (.tuple #[.agg #[.string q.x,.string q.y,.string q.z],.bool b]) ((W.alloc (.cells #[.string p.x,.string p.y,.string p.z] 26)).alloc (.cells #[.string ⟨#[]⟩,.string ⟨#[]⟩,.string ⟨#[]⟩] 26)))
  (hq : b=true→q=p) (hF : FS W lb fb mb L) :
  Calls Tryz.prog 123 #[.agg #[.string p.x,.string p.y,.string p.z],.pointer (some ⟨lb,0,none⟩),.pointer (some ⟨fb,0,none⟩)] W fun e w'=>e=.returned (.agg #[.string p.x,.string p.y,.string p.z])∧w'.heap[mb]?=some (Mo SV.val SV.val (kset L p p))∧GK W mb w':=by
 have c0:=hF.map
 have lt0:=World.block_lt_of_cell? W _ c0
 have ltm:=mp_lt hF.here
 have k2 : ((W.alloc (.cells #[.string p.x,.string p.y,.string p.z] 26)).alloc (.cells #[.string ⟨#[]⟩,.string ⟨#[]⟩,.string ⟨#[]⟩] 26)).cell? ⟨lb,0,none⟩=some (.map (some mb)):=cal (cal c0)
 have k3 : (((W.alloc (.cells #[.string p.x,.string p.y,.string p.z] 26)).alloc (.cells #[.string ⟨#[]⟩,.string ⟨#[]⟩,.string ⟨#[]⟩] 26)).alloc (.cells #[.string q.x,.string q.y,.string q.z] 26)).cell? ⟨lb,0,none⟩=some (.map (some mb)):=cal (cal (cal c0))
 have nq : b=true→∀ w,(binOp .neq 26 (.agg #[.string q.x,.string q.y,.string q.z]) (.agg #[.string p.x,.string p.y,.string p.z])).run Tryz.prog w=.ok (.bool false) w:=fun hb w=>by
  have:=neq_vec q.x q.y q.z p.x p.y p.z w
  rw [sv_eq,decide_eq_true (hq hb)] at this
  exact this
 have m3 : (((W.alloc (.cells #[.string p.x,.string p.y,.string p.z] 26)).alloc (.cells #[.string ⟨#[]⟩,.string ⟨#[]⟩,.string ⟨#[]⟩] 26)).alloc (.cells #[.string q.x,.string q.y,.string q.z] 26)).heap[mb]?=some (Mo SV.val SV.val L):=mp_alloc (mp_alloc (mp_alloc hF.here))
 have hup:=lm_update m3 p p
 have x0 : (((W.alloc (.cells #[.string p.x,.string p.y,.string p.z] 26)).alloc (.cells #[.string ⟨#[]⟩,.string ⟨#[]⟩,.string ⟨#[]⟩] 26)).alloc (.cells #[.string q.x,.string q.y,.string q.z] 26)).cell? ⟨W.heap.size,0,none⟩=some (.string p.x):=by go_simp
 have x1 : (((W.alloc (.cells #[.string p.x,.string p.y,.string p.z] 26)).alloc (.cells #[.string ⟨#[]⟩,.string ⟨#[]⟩,.string ⟨#[]⟩] 26)).alloc (.cells #[.string q.x,.string q.y,.string q.z] 26)).cell? ⟨W.heap.size,1,none⟩=some (.string p.y):=by go_simp
 have x2 : (((W.alloc (.cells #[.string p.x,.string p.y,.string p.z] 26)).alloc (.cells #[.string ⟨#[]⟩,.string ⟨#[]⟩,.string ⟨#[]⟩] 26)).alloc (.cells #[.string q.x,.string q.y,.string q.z] 26)).cell? ⟨W.heap.size,2,none⟩=some (.string p.z):=by go_simp
 have f0 : (((W.alloc (.cells #[.string p.x,.string p.y,.string p.z] 26)).alloc (.cells #[.string ⟨#[]⟩,.string ⟨#[]⟩,.string ⟨#[]⟩] 26)).alloc (.cells #[.string q.x,.string q.y,.string q.z] 26)).frozen? ⟨W.heap.size+1,0,none⟩=false:=by go_simp
 have f1 : (((W.alloc (.cells #[.string p.x,.string p.y,.string p.z] 26)).alloc (.cells #[.string ⟨#[]⟩,.string ⟨#[]⟩,.string ⟨#[]⟩] 26)).alloc (.cells #[.string q.x,.string q.y,.string q.z] 26)).frozen? ⟨W.heap.size+1,1,none⟩=false:=by go_simp
 have f2 : (((W.alloc (.cells #[.string p.x,.string p.y,.string p.z] 26)).alloc (.cells #[.string ⟨#[]⟩,.string ⟨#[]⟩,.string ⟨#[]⟩] 26)).alloc (.cells #[.string q.x,.string q.y,.string q.z] 26)).frozen? ⟨W.heap.size+1,2,none⟩=false:=by go_simp
 have g3 : GK W mb (((W.alloc (.cells #[.string p.x,.string p.y,.string p.z] 26)).alloc (.cells #[.string ⟨#[]⟩,.string ⟨#[]⟩,.string ⟨#[]⟩] 26)).alloc (.cells #[.string q.x,.string q.y,.string q.z] 26)):=gk_alloc (gk_alloc (gk_alloc (gk_refl _ _)))
 obtain ⟨X,hX⟩ : ∃ X,X=setBlock (((W.alloc (.cells #[.string p.x,.string p.y,.string p.z] 26)).alloc (.cells #[.string ⟨#[]⟩,.string ⟨#[]⟩,.string ⟨#[]⟩] 26)).alloc (.cells #[.string q.x,.string q.y,.string q.z] 26)) mb (Mo SV.val SV.val (kset L p p)):=⟨_,rfl⟩
 have hh : X.heap[mb]?=some (Mo SV.val SV.val (kset L p p)):=by rw [hX]; exact setBlock_heap m3
 have hfar : ∀ i,i≠mb→X.heap[i]?=(((W.alloc (.cells #[.string p.x,.string p.y,.string p.z] 26)).alloc (.cells #[.string ⟨#[]⟩,.string ⟨#[]⟩,.string ⟨#[]⟩] 26)).alloc (.cells #[.string q.x,.string q.y,.string q.z] 26)).heap[i]?:=fun i hi=>by rw [hX]; exact setBlock_far hi
 have gX : GK W mb X:=by rw [hX]; exact gk_set g3
 have y0 : X.cell? ⟨W.heap.size,0,none⟩=some (.string p.x):=cell_far2 (hfar _ (by omega)) x0
 have y1 : X.cell? ⟨W.heap.size,1,none⟩=some (.string p.y):=cell_far2 (hfar _ (by omega)) x1
 have y2 : X.cell? ⟨W.heap.size,2,none⟩=some (.string p.z):=cell_far2 (hfar _ (by omega)) x2
 have h0 : X.frozen? ⟨W.heap.size+1,0,none⟩=false:=frozen_far (hfar _ (by omega)) f0
 have h1 : X.frozen? ⟨W.heap.size+1,1,none⟩=false:=frozen_far (hfar _ (by omega)) f1
 have h2 : X.frozen? ⟨W.heap.size+1,2,none⟩=false:=frozen_far (hfar _ (by omega)) f2
 have o0 : X.cell? ⟨W.heap.size+1,0,none⟩=some (.string ⟨#[]⟩):=cell_far2 (hfar _ (by omega)) (by go_simp)
 have o1 : X.cell? ⟨W.heap.size+1,1,none⟩=some (.string ⟨#[]⟩):=cell_far2 (hfar _ (by omega)) (by go_simp)
 have o2 : X.cell? ⟨W.heap.size+1,2,none⟩=some (.string ⟨#[]⟩):=cell_far2 (hfar _ (by omega)) (by go_simp)
 have zX : W.heap.size+1<X.heap.size:=World.block_lt_of_cell? X _ o0
 have HH:=Lib.hid hh
 have GX:=Lib.hid gX
 have nm : mb≠W.heap.size+1:=by omega
 rw [← hX] at hup
 clear hF m3 x0 x1 x2 f0 f1 f2 g3 hX hh hfar gX
 generalize Mo SV.val SV.val (kset L p p)=M2 at *
 generalize p.x=p1 at *
 generalize p.y=p2 at *
 generalize p.z=p3 at *
 generalize q.x=q1 at *
 generalize q.y=q2 at *
 generalize q.z=q3 at *
 clear hq
 cases b
 ·clear nq
  go_enter Tryz.func123,Tryz.ntmps123
  go_wp2
  refine bodyPost_ret (v:=.agg #[.string p1,.string p2,.string p3]) (by simp [results,Tryz.results123,go_sem, *]) rfl ?_
  exact ⟨rfl,mp_set (mp_set (mp_set HH.out nm) nm) nm,gk_below GX.out ((((Below.refl W.heap.size X).setCell (by (try simp)) _).setCell (by (try simp)) _).setCell (by (try simp)) _)⟩
 ·have nq2:=nq rfl
  clear nq
  go_enter Tryz.func123,Tryz.ntmps123
  go_wp2
  refine bodyPost_ret (v:=.agg #[.string p1,.string p2,.string p3]) (by simp [results,Tryz.results123,go_sem, *]) rfl ?_
  exact ⟨rfl,mp_set (mp_set (mp_set HH.out nm) nm) nm,gk_below GX.out ((((Below.refl W.heap.size X).setCell (by (try simp)) _).setCell (by (try simp)) _).setCell (by (try simp)) _)⟩
end Go.Proofs.YtopfedbhkfdjkaaGreatDoor
