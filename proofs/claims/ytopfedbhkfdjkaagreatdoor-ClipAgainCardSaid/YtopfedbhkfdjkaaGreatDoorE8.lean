
/- vector: zip, scale, dot, height on vectors. -/
import Derived.Test.YtopfedbhkfdjkaaGreatDoorE7
set_option linter.unusedVariables false
set_option linter.unusedSimpArgs false
namespace Go.Proofs.YtopfedbhkfdjkaaGreatDoor
open Go Go.RowKit
theorem vzip_add (a b : V3) (ha : a.le 10000000) (hb : b.le 10000000) (w : World) (hB : Bw w) :
  Calls Tryz.prog 117 #[.func (.func 119) #[] #[],VV a,VV b] w fun e w'=>e=.returned (VV (a.add b))∧Below w.heap.size w w' :=
 zip_add _ _ _ _ _ _ _ _ _ w hB (fun w hB=>vadd_walk _ _ ha.1 hb.1 w hB) (fun w hB=>vadd_walk _ _ ha.2.1 hb.2.1 w hB) (fun w hB=>vadd_walk _ _ ha.2.2 hb.2.2 w hB)
theorem vzip_sub (a b : V3) (ha : a.le 10000000) (hb : b.le 10000000) (w : World) (hB : Bw w) :
  Calls Tryz.prog 117 #[.func (.func 76) #[] #[],VV a,VV b] w fun e w'=>e=.returned (VV (a.sub b))∧Below w.heap.size w w' :=
 zip_sub _ _ _ _ _ _ _ _ _ w hB (fun w hB=>vsub_walk _ _ ha.1 hb.1 w hB) (fun w hB=>vsub_walk _ _ ha.2.1 hb.2.1 w hB) (fun w hB=>vsub_walk _ _ ha.2.2 hb.2.2 w hB)
theorem vzip_mul (a b : V3) (ha : a.le 10000000) (hb : b.le 10000000) (w : World) (hB : Bw w) :
  Calls Tryz.prog 117 #[.func (.func 118) #[] #[],VV a,VV b] w fun e w'=>e=.returned (VV (a.mulc b))∧Below w.heap.size w w' :=
 zip_mul _ _ _ _ _ _ _ _ _ w hB (fun w hB=>vmul_walk _ _ ha.1 hb.1 w hB) (fun w hB=>vmul_walk _ _ ha.2.1 hb.2.1 w hB) (fun w hB=>vmul_walk _ _ ha.2.2 hb.2.2 w hB)
set_option maxHeartbeats 1000000 in
theorem vscale_walk (a : V3) (k : Rat) (ha : a.le 10000000) (hk : rz k≤10000000) (w : World) (hB : Bw w) :
  Calls Tryz.prog 74 #[VV a,.string (rtx k)] w fun e w'=>e=.returned (VV (a.smul k))∧Below w.heap.size w w':=by
 have H:=Lib.hid (fun w hB=>vzip_mul a ⟨k,k,k⟩ ha ⟨hk,hk,hk⟩ w hB)
 have K:=Lib.hid (fun w=>vof_walk (rtx k) (rtx k) (rtx k) w)
 clear ha hk
 rw [show (a.mulc ⟨k,k,k⟩)=a.smul k from rfl] at H
 rw [VV_eq,VV_eq] at *
 rw [VV_eq] at H
 dsimp only at H
 generalize rtx a.x=x1 at *
 generalize rtx a.y=x2 at *
 generalize rtx a.z=x3 at *
 generalize rtx (a.smul k).x=r1 at *
 generalize rtx (a.smul k).y=r2 at *
 generalize rtx (a.smul k).z=r3 at *
 generalize rtx k=s at *
 go_enter Tryz.func74,Tryz.ntmps74
 go_wp2
 go_region_held3 (fun w'=>w'.cell? ⟨w.heap.size,0,none⟩=some (.string x1)∧w'.cell? ⟨w.heap.size,1,none⟩=some (.string x2)∧w'.cell? ⟨w.heap.size,2,none⟩=some (.string x3)∧Below w.heap.size w w')
  ((go_split_ands; refine ⟨?_, ?_, ?_, ?_⟩<;>first | with_reducible assumption | ((with_reducible refine cal ?_); with_reducible assumption) | ((with_reducible refine bc g1 ?_); with_reducible assumption) | ((with_reducible refine cset ?_ ?_)<;>first | with_reducible assumption | ((try simp)<;>omega)) | ((with_reducible refine zal ?_); with_reducible assumption) | ((with_reducible refine zset ?_); with_reducible assumption) | ((with_reducible refine Nat.lt_of_lt_of_le ?_ g1.size); with_reducible assumption) | ((with_reducible refine ba ?_); with_reducible assumption) | ((with_reducible refine bn ?_ g1); with_reducible assumption) | ((with_reducible refine bs ?_ ?_)<;>first | with_reducible assumption | ((try simp)<;>omega)) | ((with_reducible refine Bk.below ?_ g1); with_reducible assumption) | ((with_reducible refine Bk.alloc ?_ _); with_reducible assumption) | ((with_reducible refine Bk.far ?_ ?_ _)<;>first | with_reducible assumption | ((try simp)<;>omega)) | ((with_reducible refine Bk.far (Bk.far (Bk.far ?_ ?_ _) ?_ _) ?_ _)<;>first | with_reducible assumption | ((try simp)<;>omega)) | ((with_reducible refine Bk.far (Bk.far (Bk.far (Bk.far ?_ ?_ _) ?_ _) ?_ _) ?_ _)<;>first | with_reducible assumption | ((try simp)<;>omega)) | (go_simp; done) | ((with_reducible refine Bk.drew ?_); exact bkk) | ((with_reducible refine bn ?_ g1); exact bel) | exact bel))
  (first | (go_at_call 114; refine (K.out _).mono ?_; rintro e w1 ⟨rfl,g1⟩; have hz1 : w.heap.size+1<w1.heap.size:=hzs g1; have c1_1_0:=bcv g1 (w.heap.size+1) 0 (.string ⟨#[]⟩); have f1_1_0:=bfv g1 (w.heap.size+1) 0; have c1_1_1:=bcv g1 (w.heap.size+1) 1 (.string ⟨#[]⟩); have f1_1_1:=bfv g1 (w.heap.size+1) 1; have c1_1_2:=bcv g1 (w.heap.size+1) 2 (.string ⟨#[]⟩); have f1_1_2:=bfv g1 (w.heap.size+1) 2) | (go_at_call 117; refine (H.out _ (hB.below (by go_split_ands; assumption))).mono ?_; rintro e w1 ⟨rfl,g1⟩; have hz1 : w.heap.size+1<w1.heap.size:=hzs g1; have c1_1_0:=bcv g1 (w.heap.size+1) 0 (.string ⟨#[]⟩); have f1_1_0:=bfv g1 (w.heap.size+1) 0; have c1_1_1:=bcv g1 (w.heap.size+1) 1 (.string ⟨#[]⟩); have f1_1_1:=bfv g1 (w.heap.size+1) 1; have c1_1_2:=bcv g1 (w.heap.size+1) 2 (.string ⟨#[]⟩); have f1_1_2:=bfv g1 (w.heap.size+1) 2))
 go_split_ands
 go_wp2
 refine bodyPost_ret (v:=.agg #[.string r1,.string r2,.string r3]) (by simp [results,Tryz.results74,go_sem, *]) rfl ⟨(by first | rfl | rw [hI]),bel⟩
set_option maxHeartbeats 1000000 in
theorem vdot_walk (a b : V3) (ha : a.le 2000000) (hb : b.le 2000000) (w : World) (hB : Bw w) :
  Calls Tryz.prog 72 #[VV a,VV b] w fun e w'=>e=.returned (.string (rtx (a.dot b)))∧Below w.heap.size w w':=by
 have hm:=V3.le_mulc ha hb (n:=4000000) (by omega)
 have H:=Lib.hid (fun w hB=>vzip_mul a b (ha.mono (by omega)) (hb.mono (by omega)) w hB)
 have K1:=Lib.hid (fun w hB=>vadd_walk (a.mulc b).x (a.mulc b).y (by have:=hm.1; omega) (by have:=hm.2.1; omega) w hB)
 have K2:=Lib.hid (fun w hB=>vadd_walk ((a.mulc b).x + (a.mulc b).y) (a.mulc b).z (rz_add_le hm.1 hm.2.1 (by omega)) (by have:=hm.2.2; omega) w hB)
 rw [show (a.mulc b).x + (a.mulc b).y + (a.mulc b).z=a.dot b from rfl] at K2
 clear ha hb hm
 rw [VV_eq,VV_eq] at *
 rw [VV_eq] at H
 generalize rtx ((a.mulc b).x + (a.mulc b).y)=s1 at *
 generalize rtx (a.dot b)=s2 at *
 generalize rtx (a.mulc b).x=r1 at *
 generalize rtx (a.mulc b).y=r2 at *
 generalize rtx (a.mulc b).z=r3 at *
 generalize rtx a.x=x1 at *
 generalize rtx a.y=x2 at *
 generalize rtx a.z=x3 at *
 generalize rtx b.x=y1 at *
 generalize rtx b.y=y2 at *
 generalize rtx b.z=y3 at *
 go_enter Tryz.func72,Tryz.ntmps72
 go_wp2_with fail
 refine (H.out _ (hB.below bel)).mono ?_
 rintro e w1 ⟨rfl,g1⟩
 have B1:=bn (w:=w) bel g1
 clear g1
 go_wp2
 go_region_held3 (fun w'=>w'.cell? ⟨w1.heap.size,0,none⟩=some (.string r1)∧w'.cell? ⟨w1.heap.size,1,none⟩=some (.string r2)∧w'.cell? ⟨w1.heap.size,2,none⟩=some (.string r3)∧Below w.heap.size w w')
  ((go_split_ands; refine ⟨?_, ?_, ?_, ?_⟩<;>first | with_reducible assumption | ((with_reducible refine cal ?_); with_reducible assumption) | ((with_reducible refine bc g2 ?_); with_reducible assumption) | ((with_reducible refine cset ?_ ?_)<;>first | with_reducible assumption | ((try simp)<;>omega)) | ((with_reducible refine zal ?_); with_reducible assumption) | ((with_reducible refine zset ?_); with_reducible assumption) | ((with_reducible refine Nat.lt_of_lt_of_le ?_ g2.size); with_reducible assumption) | ((with_reducible refine ba ?_); with_reducible assumption) | ((with_reducible refine bn ?_ g2); with_reducible assumption) | ((with_reducible refine bs ?_ ?_)<;>first | with_reducible assumption | ((try simp)<;>omega)) | ((with_reducible refine Bk.below ?_ g2); with_reducible assumption) | ((with_reducible refine Bk.alloc ?_ _); with_reducible assumption) | ((with_reducible refine Bk.far ?_ ?_ _)<;>first | with_reducible assumption | ((try simp)<;>omega)) | ((with_reducible refine Bk.far (Bk.far (Bk.far ?_ ?_ _) ?_ _) ?_ _)<;>first | with_reducible assumption | ((try simp)<;>omega)) | ((with_reducible refine Bk.far (Bk.far (Bk.far (Bk.far ?_ ?_ _) ?_ _) ?_ _) ?_ _)<;>first | with_reducible assumption | ((try simp)<;>omega)) | (go_simp; done) | ((with_reducible refine Bk.drew ?_); exact bkk) | ((with_reducible refine bn ?_ g2); exact bel) | exact bel))
  (first | (go_at_call_of 119 (Value.string r1); refine (K1.out _ (hB.below (by go_split_ands; assumption))).mono ?_; rintro e w2 ⟨rfl,g2⟩) | (go_at_call_of 119 (Value.string s1); refine (K2.out _ (hB.below (by go_split_ands; assumption))).mono ?_; rintro e w2 ⟨rfl,g2⟩))
 go_split_ands
 go_wp2
 go_ret
 exact ⟨rfl,bel⟩
set_option maxHeartbeats 1000000 in
theorem vheight_walk (p : Pl) (a : V3) (hp : p.le 1000000) (ha : a.le 1000000) (w : World) (hB : Bw w) :
  Calls Tryz.prog 65 #[PV p,VV a] w fun e w'=>e=.returned (.string (rtx (p.height a)))∧Below w.heap.size w w':=by
 have hd:=rz_dot hp.1 ha (n:=8000000) (by omega)
 have H:=Lib.hid (fun w hB=>vdot_walk p.n a (hp.1.mono (by omega)) (ha.mono (by omega)) w hB)
 have K1:=Lib.hid (fun w hB=>vsub_walk (p.n.dot a) p.c (by omega) (by have:=hp.2; omega) w hB)
 rw [show p.n.dot a - p.c=p.height a from rfl] at K1
 clear ha hp hd
 rw [VV_eq,VV_eq] at H
 rw [VV_eq,PV_eq]
 generalize rtx (p.n.dot a)=s1 at *
 generalize rtx (p.height a)=s2 at *
 generalize rtx p.n.x=r1 at *
 generalize rtx p.n.y=r2 at *
 generalize rtx p.n.z=r3 at *
 generalize rtx p.c=r4 at *
 generalize rtx a.x=x1 at *
 generalize rtx a.y=x2 at *
 generalize rtx a.z=x3 at *
 go_enter Tryz.func65,Tryz.ntmps65
 go_wp2
 go_region_held3 (fun w'=>w'.cell? ⟨w.heap.size,0,none⟩=some (.string r1)∧w'.cell? ⟨w.heap.size,1,none⟩=some (.string r2)∧w'.cell? ⟨w.heap.size,2,none⟩=some (.string r3)∧w'.cell? ⟨w.heap.size,3,none⟩=some (.string r4)∧w'.cell? ⟨w.heap.size+1,0,none⟩=some (.string x1)∧w'.cell? ⟨w.heap.size+1,1,none⟩=some (.string x2)∧w'.cell? ⟨w.heap.size+1,2,none⟩=some (.string x3)∧Below w.heap.size w w')
  ((go_split_ands; refine ⟨?_, ?_, ?_, ?_, ?_, ?_, ?_, ?_⟩<;>first | with_reducible assumption | ((with_reducible refine cal ?_); with_reducible assumption) | ((with_reducible refine bc g2 ?_); with_reducible assumption) | ((with_reducible refine cset ?_ ?_)<;>first | with_reducible assumption | ((try simp)<;>omega)) | ((with_reducible refine zal ?_); with_reducible assumption) | ((with_reducible refine zset ?_); with_reducible assumption) | ((with_reducible refine Nat.lt_of_lt_of_le ?_ g2.size); with_reducible assumption) | ((with_reducible refine ba ?_); with_reducible assumption) | ((with_reducible refine bn ?_ g2); with_reducible assumption) | ((with_reducible refine bs ?_ ?_)<;>first | with_reducible assumption | ((try simp)<;>omega)) | ((with_reducible refine Bk.below ?_ g2); with_reducible assumption) | ((with_reducible refine Bk.alloc ?_ _); with_reducible assumption) | ((with_reducible refine Bk.far ?_ ?_ _)<;>first | with_reducible assumption | ((try simp)<;>omega)) | ((with_reducible refine Bk.far (Bk.far (Bk.far ?_ ?_ _) ?_ _) ?_ _)<;>first | with_reducible assumption | ((try simp)<;>omega)) | ((with_reducible refine Bk.far (Bk.far (Bk.far (Bk.far ?_ ?_ _) ?_ _) ?_ _) ?_ _)<;>first | with_reducible assumption | ((try simp)<;>omega)) | (go_simp; done) | ((with_reducible refine Bk.drew ?_); exact bkk) | ((with_reducible refine bn ?_ g2); exact bel) | exact bel))
  (first | (go_at_call 72; refine (H.out _ (hB.below (by go_split_ands; assumption))).mono ?_; rintro e w2 ⟨rfl,g2⟩) | (go_at_call 76; refine (K1.out _ (hB.below (by go_split_ands; assumption))).mono ?_; rintro e w2 ⟨rfl,g2⟩))
 go_split_ands
 go_wp2
 go_ret
 exact ⟨rfl,bel⟩
end Go.Proofs.YtopfedbhkfdjkaaGreatDoor


/- vector: cross. -/
namespace Go.Proofs.YtopfedbhkfdjkaaGreatDoor
open Go Go.RowKit
end Go.Proofs.YtopfedbhkfdjkaaGreatDoor


/- Words for the walks: slices of vectors. -/
namespace Go.Proofs.YtopfedbhkfdjkaaGreatDoor
open Go Go.RowKit
def SV.cells (s : SV) : List Value:=[.string s.x,.string s.y,.string s.z]
def svs (l : List SV) : List Value:=l.flatMap SV.cells
theorem svs_length (l : List SV) : (svs l).length=l.length * 3:=by
 induction l with
 | nil=>rfl
 | cons a l ih =>
  show (a.cells++svs l).length=_
  rw [List.length_append,ih,List.length_cons]
  simp [SV.cells]; omega
theorem svs_append (a b : List SV) : svs (a++b)=svs a++svs b:=by simp [svs]
theorem svs_get : ∀ (l : List SV) (j : Nat) (s : SV),l[j]?=some s→(svs l)[j * 3]?=some (.string s.x)∧(svs l)[j * 3+1]?=some (.string s.y)∧(svs l)[j * 3+2]?=some (.string s.z)
 | [],_,_,h=>by simp at h
 | a :: l,0,s,h=>by
  simp at h
  subst h
  exact ⟨rfl,rfl,rfl⟩
 | a :: l,j+1,s,h=>by
  have ih:=svs_get l j s (by simpa using h)
  have e : svs (a :: l)=.string a.x :: .string a.y :: .string a.z :: svs l:=rfl
  rw [e,show (j+1) * 3=j * 3+1+1+1 by omega]
  simpa using ih
def Vs (w : World) (v : Value) (l : List SV) : Prop:=Rd w 3 v l.length (svs l)
theorem Vs.below {w w1 : World} {v : Value} {l : List SV} (h : Vs w v l) (hb : Below w.heap.size w w1) : Vs w1 v l:=Rd.below h hb
theorem Vs.own {w : World} {base : Nat} {e : TypeId} {v : Value} {l : List SV} (h : w.ownsRow base e 3 v l.length (svs l)) : Vs w v l:=Rd.own h
theorem Vs.open {w : World} {v : Value} {l : List SV} (h : Vs w v l) : ∃ A cap,v=.slice A l.length cap∧l.length≤cap∧cap≤9223372036854775807 ∧
  (0<l.length→∃ b off,A=some ⟨b,off,none⟩∧∀ j s,l[j]?=some s→w.cell? ⟨b,off+j * 3,none⟩=some (.string s.x)∧w.cell? ⟨b,off+j * 3+1,none⟩=some (.string s.y)∧w.cell? ⟨b,off+j * 3+2,none⟩=some (.string s.z)):=by
 obtain ⟨_,A,cap,hv,hn,hc,h⟩:=h
 refine ⟨A,cap,hv,hn,by unfold maxLen at hc; exact hc,fun h0=>?_⟩
 obtain ⟨b,off,hA,hcell⟩:=h h0
 refine ⟨b,off,hA,fun j s hj=>?_⟩
 obtain ⟨h1,h2,h3⟩:=svs_get l j s hj
 exact ⟨hcell _ _ h1,hcell _ _ h2,hcell _ _ h3⟩
end Go.Proofs.YtopfedbhkfdjkaaGreatDoor


/- vector: check. -/
namespace Go.Proofs.YtopfedbhkfdjkaaGreatDoor
open Go Go.RowKit
def chk (l : List SV) : Int:=if l.all isVec then 0 else 1
theorem chk_yes {l : List SV} (h : l.all isVec=true) : chk l=0:=by rw [chk,if_pos h]
theorem chk_no {l : List SV} (h : l.all isVec=false) : chk l=1:=by rw [chk,h]; rfl
theorem ret_i64 {a b : Int} (h : a=b) : Ending.returned (.int .i64 a)=.returned (.int .i64 b):=by rw [h]
set_option maxHeartbeats 1000000 in
theorem vcheck_walk (v : Value) (l : List SV) (w : World) (hB : Bw w) (hv : Vs w v l) (hs : ∀ s ∈ l,s.le 40000000) :
  Calls Tryz.prog 71 #[v] w fun e w'=>e=.returned (.int .i64 (chk l))∧Below w.heap.size w w':=by
 obtain ⟨A,cap,rfl,hn,hc,hcell⟩:=hv.open
 go_enter Tryz.func71,Tryz.ntmps71
 go_wp2
 go_loopw [7] (fun ii wr=>∃ k : Nat,k≤l.length∧ii=.int .i64 k∧Hid ((l.take k).all isVec=true)∧Below w.heap.size w wr) (fun ii _=>l.length - (intOf ii).toNat)
 case atStart=>exact ⟨0,Nat.zero_le _,rfl,Lib.hid rfl,Below.refl _ _⟩
 case round =>
  obtain ⟨k,hk,rfl,hd,hb⟩:=hrel
  by_cases hlt : k<l.length
  ·obtain ⟨b,off,rfl,hcl⟩:=hcell (by omega)
   have hg : l[k]?=some l[k]:=List.getElem?_eq_getElem hlt
   obtain ⟨c0,c1,c2⟩:=hcl k _ hg
   have hle:=hs l[k] (List.getElem_mem hlt)
   clear hg hcl hcell
   obtain ⟨s,hs0⟩ : ∃ s,s=l[k]:=⟨_,rfl⟩
   rw [← hs0] at c0 c1 c2 hle
   have d0:=cell_below hb c0
   have d1:=cell_below hb c1
   have d2:=cell_below hb c2
   have HV:=Lib.hid (fun w hB=>vValid_walk s hle w hB)
   unfold SV.val at HV
   have ht : Hid (isVec s=true→(l.take (k+1)).all isVec=true):=Lib.hid (fun h=>by
    rw [List.take_succ_eq_append_getElem hlt,List.all_append,hd.out,← hs0]
    simp [h])
   have hf : Hid (isVec s=false→l.all isVec=false):=Lib.hid (fun h=>by
    rw [hs0] at h
    exact List.all_eq_false.2 ⟨l[k],List.getElem_mem hlt,by rw [h]; decide⟩)
   clear hs0 hle c0 c1 c2 hs
   generalize s.x=x1 at *
   generalize s.y=x2 at *
   generalize s.z=x3 at *
   generalize hr : isVec s=r at *
   clear hr
   go_wp2_with fail
   refine (HV.out _ (hB.below bel)).mono ?_
   rintro e w1 ⟨rfl,g1⟩
   have B1:=bn (w:=w) bel g1
   clear g1
   cases r
   ·have HF:=Lib.hid (hf.out rfl)
    clear hf ht
    go_wp2
    go_ret
    exact ⟨ret_i64 (chk_no HF.out).symm,bel⟩
   ·have HT:=Lib.hid (ht.out rfl)
    clear hf ht
    go_wp2
    go_roundw
    case rel=>exact ⟨k+1,by omega,by go_num,HT,bel⟩
    case measure=>simp [intOf]; omega
  ·obtain rfl : k=l.length:=by omega
   have hall:=hd.out
   rw [List.take_length] at hall
   have HA:=Lib.hid hall
   clear hall hd
   go_wp2
   go_ret
   exact ⟨ret_i64 (chk_yes HA.out).symm,bel⟩
end Go.Proofs.YtopfedbhkfdjkaaGreatDoor


/- vector: Add, Scale. -/
namespace Go.Proofs.YtopfedbhkfdjkaaGreatDoor
open Go Go.RowKit
theorem vs_lit (W : World) (l : List SV) (vs : Array Value) (n p : Nat) (h : vs.toList=svs l) (hn : n=l.length) (hm : l.length≤1000) (hp : p=W.heap.size) : Vs (W.alloc (.cells vs 26)) (.slice (some ⟨p,0,none⟩) n n) l:=by
 subst hn hp
 refine ⟨svs_length l,some ⟨W.heap.size,0,none⟩,l.length,rfl,Nat.le_refl _,by unfold maxLen; omega,fun h0=>⟨W.heap.size,0,rfl,fun j u hu=>?_⟩⟩
 rw [Nat.zero_add]
 rw [← h,Array.getElem?_toList] at hu
 rw [World.cell?_alloc_at _ _ _ _ rfl,hu]
def txv (a : V3) : SV:=⟨rtx a.x,rtx a.y,rtx a.z⟩
theorem txv_val (a : V3) : (txv a).val=VV a:=rfl
theorem isVec_txv (a : V3) : isVec (txv a)=true:=by simp [isVec,txv,isRat_rtx]
theorem txv_le {a : V3} {k : Nat} (h : a.le k) : (txv a).le (2 * k+2) :=
 ⟨by have:=rtx_size a.x; have:=h.1; simp only [txv]; omega,by have:=rtx_size a.y; have:=h.2.1; simp only [txv]; omega,by have:=rtx_size a.z; have:=h.2.2; simp only [txv]; omega⟩
theorem txv_inj {a b : V3} (h : txv a=txv b) : a=b:=by
 simp only [txv,SV.mk.injEq,rtx_eq] at h
 cases a; cases b
 simp only [V3.mk.injEq]
 exact h
theorem isVec_iff {s : SV} : isVec s=true↔∃ a,s=txv a:=by
 constructor
 ·intro h
  unfold isVec at h
  rw [Bool.and_eq_true,Bool.and_eq_true] at h
  obtain ⟨⟨h1,h2⟩,h3⟩:=h
  obtain ⟨x,hx⟩:=isRat_iff.1 h1
  obtain ⟨y,hy⟩:=isRat_iff.1 h2
  obtain ⟨z,hz⟩:=isRat_iff.1 h3
  refine ⟨⟨x,y,z⟩, ?_⟩
  cases s
  simp only at hx hy hz
  subst hx hy hz
  rfl
 ·rintro ⟨a,rfl⟩
  exact isVec_txv a
set_option maxHeartbeats 1000000 in
theorem vadd1_walk (a b : V3) (ha : a.le 10000000) (hb : b.le 10000000) (w : World) (hB : Bw w) :
  Calls Tryz.prog 159 #[VV a,VV b] w fun e w'=>e=.returned (VV (a.add b))∧Below w.heap.size w w':=by
 have H:=Lib.hid (fun w hB=>vzip_add a b ha hb w hB)
 clear ha hb
 rw [VV_eq,VV_eq,VV_eq] at *
 generalize rtx a.x=x1 at *
 generalize rtx a.y=x2 at *
 generalize rtx a.z=x3 at *
 generalize rtx b.x=y1 at *
 generalize rtx b.y=y2 at *
 generalize rtx b.z=y3 at *
 generalize rtx (a.add b).x=r1 at *
 generalize rtx (a.add b).y=r2 at *
 generalize rtx (a.add b).z=r3 at *
 go_enter Tryz.func159,Tryz.ntmps159
 go_wp2_with fail
 refine (H.out _ (hB.below bel)).mono ?_
 rintro e w1 ⟨rfl,g1⟩
 have hz1 : w.heap.size+2<w1.heap.size:=hzs g1
 have hz1_0 : w.heap.size<w1.heap.size:=by omega
 have hz1_1 : w.heap.size+1<w1.heap.size:=by omega
 have B1:=bn (w:=w) bel g1
 have c1_2_0:=bcv g1 (w.heap.size+1+1) 0 (.string ⟨#[]⟩)
 have f1_2_0:=bfv g1 (w.heap.size+1+1) 0
 have c1_2_1:=bcv g1 (w.heap.size+1+1) 1 (.string ⟨#[]⟩)
 have f1_2_1:=bfv g1 (w.heap.size+1+1) 1
 have c1_2_2:=bcv g1 (w.heap.size+1+1) 2 (.string ⟨#[]⟩)
 have f1_2_2:=bfv g1 (w.heap.size+1+1) 2
 clear g1
 go_wp2
 refine bodyPost_ret (v:=.agg #[.string r1,.string r2,.string r3]) (by simp [results,Tryz.results159,go_sem, *]) rfl ⟨(by first | rfl | rw [hI]),bel⟩
set_option maxHeartbeats 1000000 in
theorem vapply_add (a b : V3) (ha : a.le 10000000) (hb : b.le 10000000) (w : World) (hB : Bw w) :
  Calls Tryz.prog 158 #[.func (.func 159) #[] #[],VV a,VV b] w fun e w'=>e=.returned (.tuple #[VV (a.add b),.int .i64 0])∧Below w.heap.size w w':=by
 have H:=Lib.hid (fun w hB=>vadd1_walk a b ha hb w hB)
 have K:=Lib.hid (fun (w : World) (v : Value) hB hv=>vcheck_walk v [txv a,txv b] w hB hv (fun s hs=>by
  simp at hs
  rcases hs with rfl | rfl
  ·have:=txv_le ha; exact ⟨by have:=this.1; omega,by have:=this.2.1; omega,by have:=this.2.2; omega⟩
  ·have:=txv_le hb; exact ⟨by have:=this.1; omega,by have:=this.2.1; omega,by have:=this.2.2; omega⟩))
 have KC:=Lib.hid (show chk [txv a,txv b]=0 from chk_yes (by simp [isVec_txv]))
 have KV:=Lib.hid (fun (W : World) p hp=>vs_lit W [txv a,txv b] #[.string (rtx a.x),.string (rtx a.y),.string (rtx a.z),.string (rtx b.x),.string (rtx b.y),.string (rtx b.z)] 2 p rfl rfl (by simp) hp)
 clear ha hb
 rw [VV_eq,VV_eq,VV_eq] at *
 generalize rtx a.x=x1 at *
 generalize rtx a.y=x2 at *
 generalize rtx a.z=x3 at *
 generalize rtx b.x=y1 at *
 generalize rtx b.y=y2 at *
 generalize rtx b.z=y3 at *
 generalize rtx (a.add b).x=r1 at *
 generalize rtx (a.add b).y=r2 at *
 generalize rtx (a.add b).z=r3 at *
 go_enter Tryz.func158,Tryz.ntmps158
 go_wp2_with fail
 refine (K.out _ _ (hB.below bel) (KV.out _ _ (by simp))).mono ?_
 rintro e w1 ⟨rfl,g1⟩
 rw [KC.out]
 have hz1 : w.heap.size+2<w1.heap.size:=hzs g1
 have hz1_0 : w.heap.size<w1.heap.size:=by omega
 have hz1_1 : w.heap.size+1<w1.heap.size:=by omega
 have B1:=bn (w:=w) bel g1
 have c1_0_0:=bcv g1 w.heap.size 0 (.string x1)
 have f1_0_0:=bfv g1 w.heap.size 0
 have c1_0_1:=bcv g1 w.heap.size 1 (.string x2)
 have f1_0_1:=bfv g1 w.heap.size 1
 have c1_0_2:=bcv g1 w.heap.size 2 (.string x3)
 have f1_0_2:=bfv g1 w.heap.size 2
 have c1_1_0:=bcv g1 (w.heap.size+1) 0 (.string y1)
 have f1_1_0:=bfv g1 (w.heap.size+1) 0
 have c1_1_1:=bcv g1 (w.heap.size+1) 1 (.string y2)
 have f1_1_1:=bfv g1 (w.heap.size+1) 1
 have c1_1_2:=bcv g1 (w.heap.size+1) 2 (.string y3)
 have f1_1_2:=bfv g1 (w.heap.size+1) 2
 have c1_2_0:=bcv g1 (w.heap.size+1+1) 0 (.string ⟨#[]⟩)
 have f1_2_0:=bfv g1 (w.heap.size+1+1) 0
 have c1_2_1:=bcv g1 (w.heap.size+1+1) 1 (.string ⟨#[]⟩)
 have f1_2_1:=bfv g1 (w.heap.size+1+1) 1
 have c1_2_2:=bcv g1 (w.heap.size+1+1) 2 (.string ⟨#[]⟩)
 have f1_2_2:=bfv g1 (w.heap.size+1+1) 2
 clear g1
 go_wp2_with fail
 refine (H.out _ (hB.below bel)).mono ?_
 rintro e w2 ⟨rfl,g2⟩
 have hz2 : w.heap.size+2<w2.heap.size:=hzs g2
 have hz2_0 : w.heap.size<w2.heap.size:=by omega
 have hz2_1 : w.heap.size+1<w2.heap.size:=by omega
 have B2:=bn (w:=w) bel g2
 have c2_2_0:=bcv g2 (w.heap.size+1+1) 0 (.string ⟨#[]⟩)
 have f2_2_0:=bfv g2 (w.heap.size+1+1) 0
 have c2_2_1:=bcv g2 (w.heap.size+1+1) 1 (.string ⟨#[]⟩)
 have f2_2_1:=bfv g2 (w.heap.size+1+1) 1
 have c2_2_2:=bcv g2 (w.heap.size+1+1) 2 (.string ⟨#[]⟩)
 have f2_2_2:=bfv g2 (w.heap.size+1+1) 2
 clear g2
 go_wp2
 refine bodyPost_ret (v:=.tuple #[.agg #[.string r1,.string r2,.string r3],.int .i64 0]) (by simp [results,Tryz.results158,go_sem, *]) rfl ⟨(by first | rfl | rw [hI]),bel⟩
set_option maxHeartbeats 1000000 in
theorem vecAdd_walk (a b : V3) (ha : a.le 10000000) (hb : b.le 10000000) (w : World) (hB : Bw w) :
  Calls Tryz.prog 116 #[VV a,VV b] w fun e w'=>e=.returned (.tuple #[VV (a.add b),.int .i64 0])∧Below w.heap.size w w':=by
 have H:=Lib.hid (fun w hB=>vapply_add a b ha hb w hB)
 clear ha hb
 rw [VV_eq,VV_eq,VV_eq] at *
 generalize rtx a.x=x1 at *
 generalize rtx a.y=x2 at *
 generalize rtx a.z=x3 at *
 generalize rtx b.x=y1 at *
 generalize rtx b.y=y2 at *
 generalize rtx b.z=y3 at *
 generalize rtx (a.add b).x=r1 at *
 generalize rtx (a.add b).y=r2 at *
 generalize rtx (a.add b).z=r3 at *
 go_enter Tryz.func116,Tryz.ntmps116
 go_wp2_with fail
 refine (H.out _ (hB.below bel)).mono ?_
 rintro e w1 ⟨rfl,g1⟩
 have hz1 : w.heap.size+2<w1.heap.size:=hzs g1
 have hz1_0 : w.heap.size<w1.heap.size:=by omega
 have hz1_1 : w.heap.size+1<w1.heap.size:=by omega
 have B1:=bn (w:=w) bel g1
 have c1_2_0:=bcv g1 (w.heap.size+1+1) 0 (.string ⟨#[]⟩)
 have f1_2_0:=bfv g1 (w.heap.size+1+1) 0
 have c1_2_1:=bcv g1 (w.heap.size+1+1) 1 (.string ⟨#[]⟩)
 have f1_2_1:=bfv g1 (w.heap.size+1+1) 1
 have c1_2_2:=bcv g1 (w.heap.size+1+1) 2 (.string ⟨#[]⟩)
 have f1_2_2:=bfv g1 (w.heap.size+1+1) 2
 clear g1
 go_wp2
 refine bodyPost_ret (v:=.tuple #[.agg #[.string r1,.string r2,.string r3],.int .i64 0]) (by simp [results,Tryz.results116,go_sem, *]) rfl ⟨(by first | rfl | rw [hI]),bel⟩
end Go.Proofs.YtopfedbhkfdjkaaGreatDoor


/- vector: plane, Side. -/
namespace Go.Proofs.YtopfedbhkfdjkaaGreatDoor
open Go Go.RowKit
theorem eql_vec (a b c d e f : ByteArray) : ∀ w,(binOp .eql 26 (.agg #[.string a,.string b,.string c]) (.agg #[.string d,.string e,.string f])).run Tryz.prog w=.ok (.bool (a.toList == d.toList && (b.toList == e.toList && c.toList == f.toList))) w:=by
 intro w
 go_simp
 by_cases h1 : a.toList=d.toList<;>by_cases h2 : b.toList=e.toList<;>by_cases h3 : c.toList=f.toList<;>simp [h1,h2,h3]
theorem toList_beq (a b : ByteArray) : (a.toList == b.toList)=decide (a=b):=by
 by_cases h : a=b
 ·subst h; simp
 ·rw [decide_eq_false h]
  refine beq_eq_false_iff_ne.2 fun e=>h (ba_ext ?_)
  rwa [ByteArray.toList_eq,ByteArray.toList_eq] at e
def plc (n : V3) : Int:=if n=V3.zero then 1 else 0
theorem plc_zero {n : V3} (h : n=V3.zero) : plc n=1:=if_pos h
theorem plc_ne {n : V3} (h : n≠V3.zero) : plc n=0:=if_neg h
theorem zero_texts (n : V3) : ((rtx n.x).toList == (⟨#[48]⟩ : ByteArray).toList && ((rtx n.y).toList == (⟨#[48]⟩ : ByteArray).toList && (rtx n.z).toList == (⟨#[48]⟩ : ByteArray).toList))=decide (n=V3.zero):=by
 rw [← rtx_zero,toList_beq,toList_beq,toList_beq]
 simp only [rtx_eq]
 by_cases h : n=V3.zero
 ·have:=(V3.zero_iff n).1 h
  simp [h,this]
  exact ⟨rfl,rfl,rfl⟩
 ·rw [decide_eq_false h]
  have h2 : ¬ (n.x=0∧n.y=0∧n.z=0):=fun e=>h ((V3.zero_iff n).2 e)
  by_cases a : n.x=0
  ·by_cases b : n.y=0
   ·have c : ¬ n.z=0:=fun c=>h2 ⟨a,b,c⟩
    simp [a,b,c]
   ·simp [a,b]
  ·simp [a]
set_option maxHeartbeats 2000000 in
theorem vplane_at (x1 x2 x3 x4 : ByteArray) (r : Bool) (w : World) (hB : Bw w)
  (hr : (x1.toList == (⟨#[48]⟩ : ByteArray).toList && (x2.toList == (⟨#[48]⟩ : ByteArray).toList && x3.toList == (⟨#[48]⟩ : ByteArray).toList))=r)
  (h1 : ∀ w,Bw w→Calls Tryz.prog 32 #[.agg #[.string x1,.string x2,.string x3]] w fun e w'=>e=.returned (.bool true)∧Below w.heap.size w w')
  (h2 : ∀ w,Bw w→Calls Tryz.prog 67 #[.string x4] w fun e w'=>e=.returned (.bool true)∧Below w.heap.size w w') :
  Calls Tryz.prog 63 #[.agg #[.string x1,.string x2,.string x3,.string x4]] w fun e w'=>e=.returned (.int .i64 (if r then 1 else 0))∧Below w.heap.size w w':=by
 have H1:=Lib.hid h1
 have H2:=Lib.hid h2
 have heq : ∀ w,(binOp .eql 26 (.agg #[.string x1,.string x2,.string x3]) (.agg #[.string ⟨#[48]⟩,.string ⟨#[48]⟩,.string ⟨#[48]⟩])).run Tryz.prog w=.ok (.bool r) w:=fun w=>by rw [eql_vec,hr]
 clear h1 h2 hr
 cases r
 all_goals
  go_enter Tryz.func63,Tryz.ntmps63
  go_wp2
  go_region_held3 (fun w'=>w'.cell? ⟨w.heap.size,0,none⟩=some (.string x1)∧w'.cell? ⟨w.heap.size,1,none⟩=some (.string x2)∧w'.cell? ⟨w.heap.size,2,none⟩=some (.string x3)∧w'.cell? ⟨w.heap.size,3,none⟩=some (.string x4)∧Below w.heap.size w w')
   ((go_split_ands; refine ⟨?_, ?_, ?_, ?_, ?_⟩<;>first | with_reducible assumption | ((with_reducible refine cal ?_); with_reducible assumption) | ((with_reducible refine bc g ?_); with_reducible assumption) | ((with_reducible refine cset ?_ ?_)<;>first | with_reducible assumption | ((try simp)<;>omega)) | ((with_reducible refine zal ?_); with_reducible assumption) | ((with_reducible refine zset ?_); with_reducible assumption) | ((with_reducible refine Nat.lt_of_lt_of_le ?_ g.size); with_reducible assumption) | ((with_reducible refine ba ?_); with_reducible assumption) | ((with_reducible refine bn ?_ g); with_reducible assumption) | ((with_reducible refine bs ?_ ?_)<;>first | with_reducible assumption | ((try simp)<;>omega)) | ((with_reducible refine Bk.below ?_ g); with_reducible assumption) | ((with_reducible refine Bk.alloc ?_ _); with_reducible assumption) | ((with_reducible refine Bk.far ?_ ?_ _)<;>first | with_reducible assumption | ((try simp)<;>omega)) | ((with_reducible refine Bk.far (Bk.far (Bk.far ?_ ?_ _) ?_ _) ?_ _)<;>first | with_reducible assumption | ((try simp)<;>omega)) | ((with_reducible refine Bk.far (Bk.far (Bk.far (Bk.far ?_ ?_ _) ?_ _) ?_ _) ?_ _)<;>first | with_reducible assumption | ((try simp)<;>omega)) | (go_simp; done) | ((with_reducible refine Bk.drew ?_); exact bkk) | ((with_reducible refine bn ?_ g); exact bel) | exact bel))
   (first | (go_at_call 32; refine (H1.out _ (hB.below (by go_split_ands; assumption))).mono ?_; rintro e w1 ⟨rfl,g⟩) | (go_at_call 67; refine (H2.out _ (hB.below (by go_split_ands; assumption))).mono ?_; rintro e w1 ⟨rfl,g⟩) | (go_at_call 114; refine (vof_walk _ _ _ _).mono ?_; rintro e w1 ⟨rfl,g⟩))
  go_split_ands
  clear heq
  go_wp2
  go_ret
  exact ⟨rfl,bel⟩
theorem vplane_walk (p : Pl) (hp : p.le 10000000) (w : World) (hB : Bw w) :
  Calls Tryz.prog 63 #[PV p] w fun e w'=>e=.returned (.int .i64 (plc p.n))∧Below w.heap.size w w':=by
 have hl:=txv_le hp.1
 have K1:=fun w hB=>vValid_walk (txv p.n) ⟨by have:=hl.1; omega,by have:=hl.2.1; omega,by have:=hl.2.2; omega⟩ w hB
 have K2:=fun w hB=>rValid_walk (rtx p.c) (by have:=rtx_size p.c; have:=hp.2; omega) w hB
 rw [isVec_txv] at K1
 rw [isRat_rtx] at K2
 have h:=vplane_at (rtx p.n.x) (rtx p.n.y) (rtx p.n.z) (rtx p.c) _ w hB (zero_texts p.n) K1 K2
 have e : (if decide (p.n=V3.zero)=true then (1 : Int) else 0)=plc p.n:=by
  unfold plc
  by_cases h : p.n=V3.zero<;>simp [h]
 rw [e] at h
 exact h
set_option maxHeartbeats 2000000 in
theorem vSide_walk (p : Pl) (a : V3) (h0 : p.n≠V3.zero) (hp : p.le 1000000) (ha : a.le 1000000) (w : World) (hB : Bw w) :
  Calls Tryz.prog 30 #[PV p,VV a] w fun e w'=>e=.returned (.tuple #[.int .i64 (rsg (p.height a)),.int .i64 0])∧Below w.heap.size w w':=by
 have hh:=rz_height hp ha (n:=8000000) (by omega)
 have hl:=txv_le ha
 have K0:=Lib.hid (fun w hB=>vplane_walk p ⟨hp.1.mono (by omega),by have:=hp.2; omega⟩ w hB)
 rw [plc_ne h0] at K0
 have K1:=Lib.hid (fun w hB=>vValid_walk (txv a) ⟨by have:=hl.1; omega,by have:=hl.2.1; omega,by have:=hl.2.2; omega⟩ w hB)
 rw [isVec_txv,txv_val] at K1
 have K2:=Lib.hid (fun w hB=>vheight_walk p a hp ha w hB)
 have K3:=Lib.hid (fun w hB=>vsign_walk (p.height a) (by omega) w hB)
 clear h0 hp ha hh hl
 rw [PV_eq,VV_eq] at *
 generalize rtx p.n.x=x1 at *
 generalize rtx p.n.y=x2 at *
 generalize rtx p.n.z=x3 at *
 generalize rtx p.c=x4 at *
 generalize rtx a.x=y1 at *
 generalize rtx a.y=y2 at *
 generalize rtx a.z=y3 at *
 generalize rsg (p.height a)=r at *
 generalize rtx (p.height a)=s at *
 go_enter Tryz.func30,Tryz.ntmps30
 go_wp2_with fail
 refine (K0.out _ (hB.below bel)).mono ?_
 rintro e w1 ⟨rfl,g1⟩
 have hz1 : w.heap.size+1<w1.heap.size:=hzs g1
 have hz1_0 : w.heap.size<w1.heap.size:=by omega
 have B1:=bn (w:=w) bel g1
 have c1_0_0:=bcv g1 w.heap.size 0 (.string x1)
 have f1_0_0:=bfv g1 w.heap.size 0
 have c1_0_1:=bcv g1 w.heap.size 1 (.string x2)
 have f1_0_1:=bfv g1 w.heap.size 1
 have c1_0_2:=bcv g1 w.heap.size 2 (.string x3)
 have f1_0_2:=bfv g1 w.heap.size 2
 have c1_0_3:=bcv g1 w.heap.size 3 (.string x4)
 have f1_0_3:=bfv g1 w.heap.size 3
 have c1_1_0:=bcv g1 (w.heap.size+1) 0 (.string y1)
 have f1_1_0:=bfv g1 (w.heap.size+1) 0
 have c1_1_1:=bcv g1 (w.heap.size+1) 1 (.string y2)
 have f1_1_1:=bfv g1 (w.heap.size+1) 1
 have c1_1_2:=bcv g1 (w.heap.size+1) 2 (.string y3)
 have f1_1_2:=bfv g1 (w.heap.size+1) 2
 clear g1
 go_wp2_with fail
 refine (K1.out _ (hB.below bel)).mono ?_
 rintro e w2 ⟨rfl,g2⟩
 have hz2 : w.heap.size+1<w2.heap.size:=hzs g2
 have hz2_0 : w.heap.size<w2.heap.size:=by omega
 have B2:=bn (w:=w) bel g2
 have c2_0_0:=bcv g2 w.heap.size 0 (.string x1)
 have f2_0_0:=bfv g2 w.heap.size 0
 have c2_0_1:=bcv g2 w.heap.size 1 (.string x2)
 have f2_0_1:=bfv g2 w.heap.size 1
 have c2_0_2:=bcv g2 w.heap.size 2 (.string x3)
 have f2_0_2:=bfv g2 w.heap.size 2
 have c2_0_3:=bcv g2 w.heap.size 3 (.string x4)
 have f2_0_3:=bfv g2 w.heap.size 3
 have c2_1_0:=bcv g2 (w.heap.size+1) 0 (.string y1)
 have f2_1_0:=bfv g2 (w.heap.size+1) 0
 have c2_1_1:=bcv g2 (w.heap.size+1) 1 (.string y2)
 have f2_1_1:=bfv g2 (w.heap.size+1) 1
 have c2_1_2:=bcv g2 (w.heap.size+1) 2 (.string y3)
 have f2_1_2:=bfv g2 (w.heap.size+1) 2
 clear g2
 go_wp2_with fail
 refine (K2.out _ (hB.below bel)).mono ?_
 rintro e w3 ⟨rfl,g3⟩
 have B3:=bn (w:=w) bel g3
 clear g3
 go_wp2_with fail
 refine (K3.out _ (hB.below bel)).mono ?_
 rintro e w4 ⟨rfl,g4⟩
 have B4:=bn (w:=w) bel g4
 clear g4
 go_wp2
 go_ret2
 exact ⟨rfl,bel⟩
end Go.Proofs.YtopfedbhkfdjkaaGreatDoor


/- vector: Through. -/
namespace Go.Proofs.YtopfedbhkfdjkaaGreatDoor
open Go Go.RowKit
theorem Bk.c4 {w : World} {b : Nat} {x y z t : Value} (h : Bk w b [x,y,z,t]) : w.cell? ⟨b,0,none⟩=some x∧w.cell? ⟨b,1,none⟩=some y∧w.cell? ⟨b,2,none⟩=some z∧w.cell? ⟨b,3,none⟩=some t∧w.frozen? ⟨b,0,none⟩=false∧w.frozen? ⟨b,1,none⟩=false∧w.frozen? ⟨b,2,none⟩=false∧w.frozen? ⟨b,3,none⟩=false :=
 ⟨h.cell 0 x rfl,h.cell 1 y rfl,h.cell 2 z rfl,h.cell 3 t rfl,h.free 0,h.free 1,h.free 2,h.free 3⟩
end Go.Proofs.YtopfedbhkfdjkaaGreatDoor
