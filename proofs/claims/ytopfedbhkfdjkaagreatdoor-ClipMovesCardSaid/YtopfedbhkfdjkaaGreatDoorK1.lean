/- lemmas. -/
import Derived.Test.YtopfedbhkfdjkaaGreatDoorE8
import Derived.Test.YtopfedbhkfdjkaaGreatDoorE9
import Derived.Test.YtopfedbhkfdjkaaGreatDoorEC
import Derived.Lib.SliceRun
import Derived.Test.YtopfedbhkfdjkaaGreatDoorED
import Derived.Test.YtopfedbhkfdjkaaGreatDoorEA
import Derived.Test.YtopfedbhkfdjkaaGreatDoorF3
import Derived.Test.YtopfedbhkfdjkaaGreatDoorF1
import Derived.Test.YtopfedbhkfdjkaaGreatDoorCards
import Derived.Test.YtopfedbhkfdjkaaGreatDoorTie
import Derived.ProofKit
import Derived.OpenShut
import Derived.Deep.DeepHandedRow
import Derived.Lib.LaidTab
import Derived.Lib.SmallJoins
import Derived.Shelf.Vars
import Derived.SevenTiedAt
set_option linter.unusedVariables false
set_option linter.unusedSimpArgs false
namespace Go.Proofs.YtopfedbhkfdjkaaGreatDoor
open Go Go.RowKit
set_option maxHeartbeats 1000000 in
theorem vecScale_walk (a : V3) (k : Rat) (ha : a.le 10000000) (hk : rz k≤10000000) (w : World) (hB : Bw w) :
  Calls Tryz.prog 36 #[VV a,.string (rtx k)] w fun e w'=>e=.returned (.tuple #[VV (a.smul k),.int .i64 0])∧Below w.heap.size w w':=by
 have H:=Lib.hid (fun w hB=>vscale_walk a k ha hk w hB)
 have hl:=txv_le ha
 have K1:=Lib.hid (fun w hB=>vValid_walk (txv a) ⟨by have:=hl.1; omega,by have:=hl.2.1; omega,by have:=hl.2.2; omega⟩ w hB)
 have K2:=Lib.hid (fun w hB=>rValid_walk (rtx k) (by have:=rtx_size k; omega) w hB)
 rw [isVec_txv,txv_val] at K1
 rw [isRat_rtx] at K2
 clear ha hk hl
 rw [VV_eq,VV_eq] at *
 generalize rtx a.x=x1 at *
 generalize rtx a.y=x2 at *
 generalize rtx a.z=x3 at *
 generalize rtx k=s at *
 generalize rtx (a.smul k).x=r1 at *
 generalize rtx (a.smul k).y=r2 at *
 generalize rtx (a.smul k).z=r3 at *
 go_enter Tryz.func36,Tryz.ntmps36
 go_wp2_with fail
 refine (K1.out _ (hB.below bel)).mono ?_
 rintro e w1 ⟨rfl,g1⟩
 have hz1 : w.heap.size+1<w1.heap.size:=hzs g1
 have hz1_0 : w.heap.size<w1.heap.size:=by omega
 have B1:=bn (w:=w) bel g1
 have c1_0_0:=bcv g1 w.heap.size 0 (.string x1)
 have f1_0_0:=bfv g1 w.heap.size 0
 have c1_0_1:=bcv g1 w.heap.size 1 (.string x2)
 have f1_0_1:=bfv g1 w.heap.size 1
 have c1_0_2:=bcv g1 w.heap.size 2 (.string x3)
 have f1_0_2:=bfv g1 w.heap.size 2
 have c1_1_0:=bcv g1 (w.heap.size+1) 0 (.string ⟨#[]⟩)
 have f1_1_0:=bfv g1 (w.heap.size+1) 0
 have c1_1_1:=bcv g1 (w.heap.size+1) 1 (.string ⟨#[]⟩)
 have f1_1_1:=bfv g1 (w.heap.size+1) 1
 have c1_1_2:=bcv g1 (w.heap.size+1) 2 (.string ⟨#[]⟩)
 have f1_1_2:=bfv g1 (w.heap.size+1) 2
 clear g1
 go_wp2_with fail
 refine (K2.out _ (hB.below bel)).mono ?_
 rintro e w2 ⟨rfl,g2⟩
 have hz2 : w.heap.size+1<w2.heap.size:=hzs g2
 have hz2_0 : w.heap.size<w2.heap.size:=by omega
 have B2:=bn (w:=w) bel g2
 have c2_0_0:=bcv g2 w.heap.size 0 (.string x1)
 have f2_0_0:=bfv g2 w.heap.size 0
 have c2_0_1:=bcv g2 w.heap.size 1 (.string x2)
 have f2_0_1:=bfv g2 w.heap.size 1
 have c2_0_2:=bcv g2 w.heap.size 2 (.string x3)
 have f2_0_2:=bfv g2 w.heap.size 2
 have c2_1_0:=bcv g2 (w.heap.size+1) 0 (.string ⟨#[]⟩)
 have f2_1_0:=bfv g2 (w.heap.size+1) 0
 have c2_1_1:=bcv g2 (w.heap.size+1) 1 (.string ⟨#[]⟩)
 have f2_1_1:=bfv g2 (w.heap.size+1) 1
 have c2_1_2:=bcv g2 (w.heap.size+1) 2 (.string ⟨#[]⟩)
 have f2_1_2:=bfv g2 (w.heap.size+1) 2
 clear g2
 go_wp2_with fail
 refine (H.out _ (hB.below bel)).mono ?_
 rintro e w3 ⟨rfl,g3⟩
 have hz3 : w.heap.size+1<w3.heap.size:=hzs g3
 have hz3_0 : w.heap.size<w3.heap.size:=by omega
 have B3:=bn (w:=w) bel g3
 have c3_1_0:=bcv g3 (w.heap.size+1) 0 (.string ⟨#[]⟩)
 have f3_1_0:=bfv g3 (w.heap.size+1) 0
 have c3_1_1:=bcv g3 (w.heap.size+1) 1 (.string ⟨#[]⟩)
 have f3_1_1:=bfv g3 (w.heap.size+1) 1
 have c3_1_2:=bcv g3 (w.heap.size+1) 2 (.string ⟨#[]⟩)
 have f3_1_2:=bfv g3 (w.heap.size+1) 2
 clear g3
 go_wp2
 refine bodyPost_ret (v:=.tuple #[.agg #[.string r1,.string r2,.string r3],.int .i64 0]) (by simp [results,Tryz.results36,go_sem, *]) rfl ⟨(by first | rfl | rw [hI]),bel⟩
end Go.Proofs.YtopfedbhkfdjkaaGreatDoor

namespace Go.Proofs.YtopfedbhkfdjkaaGreatDoor
open Go Go.RowKit
section
variable {α β : Type}
def Tr.pts (t : Tr α) : List α:=[t.a,t.b,t.c]
def tpts (l : List (Tr α)) : List α:=l.flatMap Tr.pts
theorem tpts_length (l : List (Tr α)) : (tpts l).length=l.length * 3:=by
 induction l with
 | nil=>rfl
 | cons t l ih =>
  show (t.pts++tpts l).length=_
  rw [List.length_append,ih,List.length_cons]
  simp [Tr.pts]; omega
variable [DecidableEq α] [DecidableEq β]
end
end Go.Proofs.YtopfedbhkfdjkaaGreatDoor

namespace Go.Proofs.YtopfedbhkfdjkaaGreatDoor
open Go Go.RowKit
section
variable {α β : Type}
theorem tpts_map (f : α→β) (l : List (Tr α)) : tpts (l.map (Tr.map f))=(tpts l).map f:=by
 induction l with
 | nil=>rfl
 | cons t l ih =>
  show Tr.pts (Tr.map f t)++tpts (l.map (Tr.map f))=(t.pts++tpts l).map f
  rw [ih,List.map_append]
  rfl
end
section
variable {α β : Type} [DecidableEq α] [DecidableEq β]
variable {f : α→β} (hf : ∀ x y,f x=f y→x=y)
include hf
end
end Go.Proofs.YtopfedbhkfdjkaaGreatDoor

namespace Go.Proofs.YtopfedbhkfdjkaaGreatDoor
open Go Go.RowKit
def mixF (F : V3→V3) (P : List V3) (m : Nat) : List V3:=(P.take m).map F++P.drop m
theorem mixF_zero (F : V3→V3) (P : List V3) : mixF F P 0=P:=by simp [mixF]
theorem mixF_end (F : V3→V3) (P : List V3) : mixF F P P.length=P.map F:=by simp [mixF]
theorem mixF_get {F : V3→V3} {P : List V3} {m : Nat} {p : V3} (h : P[m]?=some p) : (mixF F P m)[m]?=some p:=by
 have hlt : m<P.length:=(List.getElem?_eq_some_iff.1 h).1
 unfold mixF
 rw [List.getElem?_append_right (by rw [List.length_map,List.length_take]; omega),List.length_map,List.length_take,List.getElem?_drop]
 rw [show m + (m - min m P.length)=m by omega]
 exact h
theorem mixF_set {F : V3→V3} {P : List V3} {m : Nat} {p : V3} (h : P[m]?=some p) : (mixF F P m).set m (F p)=mixF F P (m+1):=by
 have hlt : m<P.length:=(List.getElem?_eq_some_iff.1 h).1
 have e : P[m]=p:=(List.getElem?_eq_some_iff.1 h).2
 have hl : ((P.take m).map F).length=m:=by rw [List.length_map,List.length_take]; omega
 unfold mixF
 rw [List.set_append_right _ _ (by omega),hl,Nat.sub_self,List.drop_eq_getElem_cons hlt,e,List.set_cons_zero,List.take_succ_eq_append_getElem hlt,e,List.map_append,List.append_assoc]
 rfl
theorem svs_set : ∀ (l : List SV) (m : Nat) (s : SV),svs (l.set m s)=(((svs l).set (m * 3) (.string s.x)).set (m * 3+1) (.string s.y)).set (m * 3+2) (.string s.z)
 | [],m,s=>by simp [svs]
 | a :: l,0,s=>rfl
 | a :: l,m+1,s=>by
  have ih:=svs_set l m s
  have e : ∀ (b : SV) (k : List SV),svs (b :: k)=.string b.x :: .string b.y :: .string b.z :: svs k:=fun _ _=>rfl
  rw [List.set_cons_succ,e,e,ih,show (m+1) * 3=m * 3+1+1+1 by omega]
  rfl
theorem tcs_pts (l : List TV) : tcs l=svs (tpts l):=by
 induction l with
 | nil=>rfl
 | cons t l ih =>
  show TV.cells t++tcs l=svs (t.pts++tpts l)
  rw [svs_append,ih]
  simp [Tr.pts,svs,TV.cells]
theorem tpts_txt (L : List (Tr V3)) : tpts (L.map txt)=tvs (tpts L):=tpts_map (f:=txv) L
theorem tpts_mapF (F : V3→V3) (L : List (Tr V3)) : tpts (L.map (Tr.map F))=(tpts L).map F:=tpts_map (f:=F) L
theorem tvs_set (l : List V3) (m : Nat) (p : V3) : tvs (l.set m p)=(tvs l).set m (txv p):=by
 unfold tvs
 rw [List.map_set]
theorem own_point {w : World} {base g n cap m : Nat} {P : List V3} {p : V3} (h : w.ownsRow base 36 9 (.slice (some ⟨g,0,none⟩) n cap) n (svs (tvs P))) (hm : m<n * 3) :
  (((w.setCell ⟨g,m * 3,none⟩ (.string (rtx p.x))).setCell ⟨g,m * 3+1,none⟩ (.string (rtx p.y))).setCell ⟨g,m * 3+2,none⟩ (.string (rtx p.z))).ownsRow base 36 9 (.slice (some ⟨g,0,none⟩) n cap) n (svs (tvs (P.set m p))):=by
 rw [tvs_set,svs_set]
 exact (World.ownsRow.stored (World.ownsRow.stored (World.ownsRow.stored h (m * 3) (.string (rtx p.x))).1 (m * 3+1) (.string (rtx p.y))).1 (m * 3+2) (.string (rtx p.z))).1
theorem own_cells {w : World} {base g n cap m : Nat} {P : List V3} {p : V3} (h : w.ownsRow base 36 9 (.slice (some ⟨g,0,none⟩) n cap) n (svs (tvs P))) (hp : P[m]?=some p) (hm : m<n * 3) :
  w.cell? ⟨g,m * 3,none⟩=some (.string (rtx p.x))∧w.cell? ⟨g,m * 3+1,none⟩=some (.string (rtx p.y))∧w.cell? ⟨g,m * 3+2,none⟩=some (.string (rtx p.z)):=by
 obtain ⟨h1,h2,h3⟩:=svs_get (tvs P) m (txv p) (by unfold tvs; rw [List.getElem?_map,hp]; rfl)
 exact ⟨(h.cellAt _ (by omega)).trans h1,(h.cellAt _ (by omega)).trans h2,(h.cellAt _ (by omega)).trans h3⟩
set_option maxHeartbeats 4000000 in
set_option maxRecDepth 100000 in
theorem eachM_walk (F : V3→V3) (v : Value) (L : List (Tr V3)) (bb : Nat) (d1 d2 d3 : ByteArray) (w : World) (hB : Bw w) (hv : Ts w v (L.map txt)) (hm : L.length≤100000) (hd : w.cell? ⟨bb,0,none⟩=some (.string d1)∧w.cell? ⟨bb,1,none⟩=some (.string d2)∧w.cell? ⟨bb,2,none⟩=some (.string d3))
  (hF : ∀ p ∈ tpts L,∀ W,Bw W→(W.cell? ⟨bb,0,none⟩=some (.string d1)∧W.cell? ⟨bb,1,none⟩=some (.string d2)∧W.cell? ⟨bb,2,none⟩=some (.string d3))→Calls Tryz.prog 69 #[VV p,.pointer (some ⟨bb,0,none⟩)] W fun e w'=>e=.returned (VV (F p))∧Below W.heap.size W w') :
  Calls Tryz.prog 68 #[v,.func (.func 69) #[] #[.pointer (some ⟨bb,0,none⟩)]] w (Ret fun u w'=>Ts w' u ((L.map (Tr.map F)).map txt)∧Below w.heap.size w w'):=by
 have hlen : (L.map txt).length=L.length:=List.length_map _
 have HC:=Lib.hid (fun w hv=>cloneS_walk v (L.map txt) w hv (by rw [hlen]; omega))
 rw [hlen,tcs_pts,tpts_txt] at HC
 have HFR : Hid (((L.map (Tr.map F)).map txt).length=L.length∧tcs ((L.map (Tr.map F)).map txt)=svs (tvs ((tpts L).map F))):=Lib.hid ⟨by rw [List.length_map,List.length_map],by rw [tcs_pts,tpts_txt,tpts_mapF]⟩
 have HPL : Hid ((tpts L).length=L.length * 3):=Lib.hid (tpts_length L)
 have HV:=Lib.hid hv
 have HF:=Lib.hid hF
 obtain ⟨A,cap,rfl,hn,hc, -⟩:=hv.open
 rw [hlen] at hn HV HC ⊢
 clear hlen hv hF
 generalize tpts L=P at *
 obtain ⟨n,hn0⟩ : ∃ n,n=L.length:=⟨_,rfl⟩
 rw [← hn0] at hn HV HC HPL HFR hm ⊢
 clear hn0
 go_enter Tryz.func68,Tryz.ntmps68
 go_wp2_with fail
 refine (HC.out _ HV.out).mono ?_
 rintro e w1 ⟨u1,rfl,ho1,g1⟩
 have HO1:=Lib.hid ho1
 by_cases h0 : n=0
 ·subst h0
  rcases ho1.2 with ⟨hu, -⟩ | ⟨g,cap1,cur,hu, -⟩
  ·subst hu
   clear ho1
   go_wp2
   refine wp_loop_rounds 1 ?_
   rw [rounds_succ]
   go_wp2
   go_ret
   refine ⟨_,rfl, ?_,g1⟩
   have hp0 : P=[]:=List.eq_nil_of_length_eq_zero (by rw [HPL.out])
   refine Ts.own (base:=w.heap.size) (e:=36) ?_
   rw [HFR.out.1,HFR.out.2,hp0]
   rw [hp0] at HO1
   exact HO1.out
  ·subst hu
   clear ho1
   go_wp2
   refine wp_loop_rounds 1 ?_
   rw [rounds_succ]
   go_wp2
   go_ret
   refine ⟨_,rfl, ?_,g1⟩
   have hp0 : P=[]:=List.eq_nil_of_length_eq_zero (by rw [HPL.out])
   refine Ts.own (base:=w.heap.size) (e:=36) ?_
   rw [HFR.out.1,HFR.out.2,hp0]
   rw [hp0] at HO1
   exact HO1.out
 ·obtain ⟨g,cap1,hu,hg1,hg2⟩:=ho1.form (by omega)
  subst hu
  clear ho1
  have HO2 : Hid (w1.ownsRow w.heap.size 36 9 (.slice (some ⟨g,0,none⟩) n cap1) n (svs (tvs (mixF F P 0)))):=Lib.hid (by rw [mixF_zero]; exact HO1.out)
  clear HO1
  go_wp2
  go_loopw [12] (fun ii wr=>∃ i : Nat,i≤n∧ii=.int .i64 i∧Hid (wr.ownsRow w.heap.size 36 9 (.slice (some ⟨g,0,none⟩) n cap1) n (svs (tvs (mixF F P (i * 3)))))∧Below w.heap.size w wr) (fun ii _=>n - (intOf ii).toNat)
  case atStart=>exact ⟨0,Nat.zero_le _,rfl,HO2,g1⟩
  case round =>
   obtain ⟨i,hi,rfl,hown,hb⟩:=hrel
   have hsz:=hb.size
   by_cases hlt : i<n
   ·have hi0 : (0 : Int)≤(i : Int):=by omega
    have hin : (i : Int)<(n : Int):=by omega
    have o0:=hown
    have b0:=hb
    obtain ⟨V0,hV0⟩ : ∃ x,x=wr:=⟨_,rfl⟩
    subst hV0
    clear hown HO2
    go_wp2
    refine wp_loop_rounds 4 ?_
    rw [rounds_succ]
    obtain ⟨p0,hp0⟩ : ∃ p,P[i * 3]?=some p:=⟨_,List.getElem?_eq_getElem (by rw [HPL.out]; omega)⟩
    obtain ⟨x0,x1,x2⟩:=own_cells o0.out (mixF_get hp0) (by omega)
    rw [show (i * 3) * 3=i * 9 by omega] at x0
    rw [show (i * 3) * 3+1=i * 9+1 by omega] at x1
    rw [show (i * 3) * 3+2=i * 9+2 by omega] at x2
    have HFp:=Lib.hid (fun W hB=>HF.out p0 (List.mem_of_getElem? hp0) W hB)
    have HST : Hid (∀ W : World,W.ownsRow w.heap.size 36 9 (.slice (some ⟨g,0,none⟩) n cap1) n (svs (tvs (mixF F P (i * 3))))→(((W.setCell ⟨g,i * 9,none⟩ (.string (rtx (F p0).x))).setCell ⟨g,i * 9+1,none⟩ (.string (rtx (F p0).y))).setCell ⟨g,i * 9+2,none⟩ (.string (rtx (F p0).z))).ownsRow w.heap.size 36 9 (.slice (some ⟨g,0,none⟩) n cap1) n (svs (tvs (mixF F P (i * 3+1))))):=Lib.hid (fun W h=>by
     have:=own_point (m:=i * 3) (p:=F p0) h (by omega)
     rw [mixF_set hp0,show (i * 3) * 3=i * 9 by omega] at this
     exact this)
    rw [VV_eq p0,VV_eq (F p0)] at HFp
    generalize rtx p0.x=q00 at *
    generalize rtx (F p0).x=r00 at *
    generalize rtx p0.y=q01 at *
    generalize rtx (F p0).y=r01 at *
    generalize rtx p0.z=q02 at *
    generalize rtx (F p0).z=r02 at *
    have hsz0:=b0.size
    have zg0 : g<V0.heap.size:=World.block_lt_of_cell? V0 _ x0
    go_wp2
    go_region_with
     ((go_at_call 69; refine (HFp.out _ (hB.below (by first | exact b0 | exact bd b0)) (by exact ⟨cell_below (by first | exact b0 | exact bd b0) hd.1,cell_below (by first | exact b0 | exact bd b0) hd.2.1,cell_below (by first | exact b0 | exact bd b0) hd.2.2⟩)).mono ?_; rintro e y0 ⟨rfl,gy⟩; have n0:=cell_below gy (by exact x0); have n1:=cell_below gy (by exact x1); have n2:=cell_below gy (by exact x2); have B0 : Below w.heap.size w y0:=bn (by first | exact b0 | exact bd b0) gy; have O0:=Lib.hid (own_below (by first | exact o0.out | exact o0.out.drew) gy); have f0:=World.ownsRow.frozenAt O0.out (i * 9); have f1:=World.ownsRow.frozenAt O0.out (i * 9+1); have f2:=World.ownsRow.frozenAt O0.out (i * 9+2); have zy0 : g<y0.heap.size:=Nat.lt_of_lt_of_le zg0 (by have:=gy.size; (try simp at this); omega); clear gy))
    obtain ⟨U1,hU⟩ : ∃ U,U=((y0.setCell ⟨g,i * 9,none⟩ (.string r00)).setCell ⟨g,i * 9+1,none⟩ (.string r01)).setCell ⟨g,i * 9+2,none⟩ (.string r02):=⟨_,rfl⟩
    have o1 : Hid (U1.ownsRow w.heap.size 36 9 (.slice (some ⟨g,0,none⟩) n cap1) n (svs (tvs (mixF F P (i * 3+1))))):=Lib.hid (by
     have:=HST.out _ O0.out
     rw [hU]
     exact this)
    have b1 : Below w.heap.size w U1:=by rw [hU]; exact ((B0.setCell hg1 _).setCell hg1 _).setCell hg1 _
    rw [← hU]
    clear hU x0 x1 x2 n0 n1 n2 f0 f1 f2 HST HFp
    go_wp2
    rw [rounds_succ]
    obtain ⟨p1,hp1⟩ : ∃ p,P[i * 3+1]?=some p:=⟨_,List.getElem?_eq_getElem (by rw [HPL.out]; omega)⟩
    obtain ⟨x0,x1,x2⟩:=own_cells o1.out (mixF_get hp1) (by omega)
    rw [show (i * 3+1) * 3=i * 9+3 by omega] at x0
    rw [show (i * 3+1) * 3+1=i * 9+4 by omega] at x1
    rw [show (i * 3+1) * 3+2=i * 9+5 by omega] at x2
    have HFp:=Lib.hid (fun W hB=>HF.out p1 (List.mem_of_getElem? hp1) W hB)
    have HST : Hid (∀ W : World,W.ownsRow w.heap.size 36 9 (.slice (some ⟨g,0,none⟩) n cap1) n (svs (tvs (mixF F P (i * 3+1))))→(((W.setCell ⟨g,i * 9+3,none⟩ (.string (rtx (F p1).x))).setCell ⟨g,i * 9+4,none⟩ (.string (rtx (F p1).y))).setCell ⟨g,i * 9+5,none⟩ (.string (rtx (F p1).z))).ownsRow w.heap.size 36 9 (.slice (some ⟨g,0,none⟩) n cap1) n (svs (tvs (mixF F P (i * 3+1+1))))):=Lib.hid (fun W h=>by
     have:=own_point (m:=i * 3+1) (p:=F p1) h (by omega)
     rw [mixF_set hp1,show (i * 3+1) * 3=i * 9+3 by omega] at this
     exact this)
    rw [VV_eq p1,VV_eq (F p1)] at HFp
    generalize rtx p1.x=q10 at *
    generalize rtx (F p1).x=r10 at *
    generalize rtx p1.y=q11 at *
    generalize rtx (F p1).y=r11 at *
    generalize rtx p1.z=q12 at *
    generalize rtx (F p1).z=r12 at *
    have hsz1:=b1.size
    have zg1 : g<U1.heap.size:=World.block_lt_of_cell? U1 _ x0
    go_wp2
    go_region_with
     ((go_at_call 69; refine (HFp.out _ (hB.below (by first | exact b1 | exact bd b1)) (by exact ⟨cell_below (by first | exact b1 | exact bd b1) hd.1,cell_below (by first | exact b1 | exact bd b1) hd.2.1,cell_below (by first | exact b1 | exact bd b1) hd.2.2⟩)).mono ?_; rintro e y1 ⟨rfl,gy⟩; have n0:=cell_below gy (by exact x0); have n1:=cell_below gy (by exact x1); have n2:=cell_below gy (by exact x2); have B1 : Below w.heap.size w y1:=bn (by first | exact b1 | exact bd b1) gy; have O1:=Lib.hid (own_below (by first | exact o1.out | exact o1.out.drew) gy); have f0:=World.ownsRow.frozenAt O1.out (i * 9+3); have f1:=World.ownsRow.frozenAt O1.out (i * 9+4); have f2:=World.ownsRow.frozenAt O1.out (i * 9+5); have zy1 : g<y1.heap.size:=Nat.lt_of_lt_of_le zg1 (by have:=gy.size; (try simp at this); omega); clear gy))
    obtain ⟨U2,hU⟩ : ∃ U,U=((y1.setCell ⟨g,i * 9+3,none⟩ (.string r10)).setCell ⟨g,i * 9+4,none⟩ (.string r11)).setCell ⟨g,i * 9+5,none⟩ (.string r12):=⟨_,rfl⟩
    have o2 : Hid (U2.ownsRow w.heap.size 36 9 (.slice (some ⟨g,0,none⟩) n cap1) n (svs (tvs (mixF F P (i * 3+2))))):=Lib.hid (by
     have:=HST.out _ O1.out
     rw [hU]
     exact this)
    have b2 : Below w.heap.size w U2:=by rw [hU]; exact ((B1.setCell hg1 _).setCell hg1 _).setCell hg1 _
    rw [← hU]
    clear hU x0 x1 x2 n0 n1 n2 f0 f1 f2 HST HFp
    go_wp2
    rw [rounds_succ]
    obtain ⟨p2,hp2⟩ : ∃ p,P[i * 3+2]?=some p:=⟨_,List.getElem?_eq_getElem (by rw [HPL.out]; omega)⟩
    obtain ⟨x0,x1,x2⟩:=own_cells o2.out (mixF_get hp2) (by omega)
    rw [show (i * 3+2) * 3=i * 9+6 by omega] at x0
    rw [show (i * 3+2) * 3+1=i * 9+7 by omega] at x1
    rw [show (i * 3+2) * 3+2=i * 9+8 by omega] at x2
    have HFp:=Lib.hid (fun W hB=>HF.out p2 (List.mem_of_getElem? hp2) W hB)
    have HST : Hid (∀ W : World,W.ownsRow w.heap.size 36 9 (.slice (some ⟨g,0,none⟩) n cap1) n (svs (tvs (mixF F P (i * 3+2))))→(((W.setCell ⟨g,i * 9+6,none⟩ (.string (rtx (F p2).x))).setCell ⟨g,i * 9+7,none⟩ (.string (rtx (F p2).y))).setCell ⟨g,i * 9+8,none⟩ (.string (rtx (F p2).z))).ownsRow w.heap.size 36 9 (.slice (some ⟨g,0,none⟩) n cap1) n (svs (tvs (mixF F P (i * 3+2+1))))):=Lib.hid (fun W h=>by
     have:=own_point (m:=i * 3+2) (p:=F p2) h (by omega)
     rw [mixF_set hp2,show (i * 3+2) * 3=i * 9+6 by omega] at this
     exact this)
    rw [VV_eq p2,VV_eq (F p2)] at HFp
    generalize rtx p2.x=q20 at *
    generalize rtx (F p2).x=r20 at *
    generalize rtx p2.y=q21 at *
    generalize rtx (F p2).y=r21 at *
    generalize rtx p2.z=q22 at *
    generalize rtx (F p2).z=r22 at *
    have hsz2:=b2.size
    have zg2 : g<U2.heap.size:=World.block_lt_of_cell? U2 _ x0
    go_wp2
    go_region_with
     ((go_at_call 69; refine (HFp.out _ (hB.below (by first | exact b2 | exact bd b2)) (by exact ⟨cell_below (by first | exact b2 | exact bd b2) hd.1,cell_below (by first | exact b2 | exact bd b2) hd.2.1,cell_below (by first | exact b2 | exact bd b2) hd.2.2⟩)).mono ?_; rintro e y2 ⟨rfl,gy⟩; have n0:=cell_below gy (by exact x0); have n1:=cell_below gy (by exact x1); have n2:=cell_below gy (by exact x2); have B2 : Below w.heap.size w y2:=bn (by first | exact b2 | exact bd b2) gy; have O2:=Lib.hid (own_below (by first | exact o2.out | exact o2.out.drew) gy); have f0:=World.ownsRow.frozenAt O2.out (i * 9+6); have f1:=World.ownsRow.frozenAt O2.out (i * 9+7); have f2:=World.ownsRow.frozenAt O2.out (i * 9+8); have zy2 : g<y2.heap.size:=Nat.lt_of_lt_of_le zg2 (by have:=gy.size; (try simp at this); omega); clear gy))
    obtain ⟨U3,hU⟩ : ∃ U,U=((y2.setCell ⟨g,i * 9+6,none⟩ (.string r20)).setCell ⟨g,i * 9+7,none⟩ (.string r21)).setCell ⟨g,i * 9+8,none⟩ (.string r22):=⟨_,rfl⟩
    have o3 : Hid (U3.ownsRow w.heap.size 36 9 (.slice (some ⟨g,0,none⟩) n cap1) n (svs (tvs (mixF F P ((i+1) * 3))))):=Lib.hid (by
     have:=HST.out _ O2.out
     rw [show i * 3+2+1=(i+1) * 3 by omega] at this
     rw [hU]
     exact this)
    have b3 : Below w.heap.size w U3:=by rw [hU]; exact ((B2.setCell hg1 _).setCell hg1 _).setCell hg1 _
    rw [← hU]
    clear hU x0 x1 x2 n0 n1 n2 f0 f1 f2 HST HFp
    go_wp2
    rw [rounds_succ]
    go_wp2
    go_roundw
    case rel=>exact ⟨i+1,by omega,by go_num,o3,b3⟩
    case measure=>simp [intOf]; omega
   ·obtain rfl : i=n:=by omega
    have HE : Hid (Ts wr (.slice (some ⟨g,0,none⟩) i cap1) ((L.map (Tr.map F)).map txt)):=Lib.hid (by
     refine Ts.own (base:=w.heap.size) (e:=36) ?_
     rw [HFR.out.1,HFR.out.2,← mixF_end F P,HPL.out]
     exact hown.out)
    clear hown HO2
    go_wp2
    go_ret
    exact ⟨_,rfl,HE.out,hb⟩
end Go.Proofs.YtopfedbhkfdjkaaGreatDoor

namespace Go.Proofs.YtopfedbhkfdjkaaGreatDoor
open Go Go.RowKit
set_option maxHeartbeats 2000000 in
theorem move1_walk (p d : V3) (hp : p.le 10000000) (hd : d.le 10000000) (bb : Nat) (w : World) (hB : Bw w) (hc : w.cell? ⟨bb,0,none⟩=some (.string (rtx d.x))∧w.cell? ⟨bb,1,none⟩=some (.string (rtx d.y))∧w.cell? ⟨bb,2,none⟩=some (.string (rtx d.z))) :
  Calls Tryz.prog 69 #[VV p,.pointer (some ⟨bb,0,none⟩)] w fun e w'=>e=.returned (VV (p.add d))∧Below w.heap.size w w':=by
 have H:=Lib.hid (fun w hB=>mplus_walk p d hp hd w hB)
 obtain ⟨k0,k1,k2⟩:=hc
 have hlt:=World.block_lt_of_cell? w _ k0
 clear hp hd
 rw [VV_eq,VV_eq,VV_eq] at *
 generalize rtx p.x=x1 at *
 generalize rtx p.y=x2 at *
 generalize rtx p.z=x3 at *
 generalize rtx d.x=y1 at *
 generalize rtx d.y=y2 at *
 generalize rtx d.z=y3 at *
 generalize rtx (p.add d).x=r1 at *
 generalize rtx (p.add d).y=r2 at *
 generalize rtx (p.add d).z=r3 at *
 go_enter Tryz.func69,Tryz.ntmps69
 go_wp2_with fail
 refine (H.out _ (hB.below bel)).mono ?_
 rintro e w1 ⟨rfl,g1⟩
 have hz1 : w.heap.size+1<w1.heap.size:=hzs g1
 have hz1_0 : w.heap.size<w1.heap.size:=by omega
 have B1:=bn (w:=w) bel g1
 have c1_1_0:=bcv g1 (w.heap.size+1) 0 (.string ⟨#[]⟩)
 have f1_1_0:=bfv g1 (w.heap.size+1) 0
 have c1_1_1:=bcv g1 (w.heap.size+1) 1 (.string ⟨#[]⟩)
 have f1_1_1:=bfv g1 (w.heap.size+1) 1
 have c1_1_2:=bcv g1 (w.heap.size+1) 2 (.string ⟨#[]⟩)
 have f1_1_2:=bfv g1 (w.heap.size+1) 2
 clear g1
 go_wp2
 refine bodyPost_ret (v:=.agg #[.string r1,.string r2,.string r3]) (by simp [results,Tryz.results69,go_sem, *]) rfl ⟨(by first | rfl | rw [hI]),bel⟩
theorem mem_tpts {L : List (Tr V3)} {k : Nat} (h : ∀ t ∈ L,t.a.le k∧t.b.le k∧t.c.le k) : ∀ p ∈ tpts L,p.le k:=by
 intro p hp
 unfold tpts at hp
 obtain ⟨t,ht,hp⟩:=List.mem_flatMap.1 hp
 simp only [Tr.pts,List.mem_cons,List.not_mem_nil,or_false] at hp
 obtain ⟨h1,h2,h3⟩:=h t ht
 rcases hp with rfl | rfl | rfl
 ·exact h1
 ·exact h2
 ·exact h3
set_option maxHeartbeats 400000 in
set_option maxRecDepth 100000 in
theorem mMove_ok (v : Value) (L : List (Tr V3)) (d : V3) (w : World) (hB : Bw w) (hv : Ts w v (L.map txt)) (hs : ∀ t ∈ L,t.a.le 1000000∧t.b.le 1000000∧t.c.le 1000000) (hd : d.le 1000000) (hz : chkC (L.map txt)=0) :
  Calls Tryz.prog 33 #[v,VV d] w (Ret fun r w'=>(∃ u,r=.tuple #[u,.int .i64 0]∧Ts w' u ((L.map (Tr.map (V3.add · d))).map txt))∧Below w.heap.size w w'):=by
 have hle:=tle_txt hs (show 2 * 1000000+2≤40000000 by omega)
 have hp:=chkC_zero hz
 have hlen : (L.map txt).length=L.length:=List.length_map _
 have hdl:=txv_le hd
 have H1:=Lib.hid (fun w hB hv=>check_walk v (L.map txt) w hB hv hle)
 have H2:=Lib.hid (fun w hB=>vValid_walk (txv d) ⟨Nat.le_trans hdl.1 (by omega),Nat.le_trans hdl.2.1 (by omega),Nat.le_trans hdl.2.2 (by omega)⟩ w hB)
 have H3:=Lib.hid (fun bb w hB hv hc=>eachM_walk (V3.add · d) v L bb (rtx d.x) (rtx d.y) (rtx d.z) w hB hv (by omega) hc (fun p hp W hB hc=>move1_walk p d ((mem_tpts hs p hp).mono (by omega)) (hd.mono (by omega)) bb W hB hc))
 rw [hz] at H1
 rw [isVec_txv,txv_val,VV_eq] at H2
 have HV:=Lib.hid hv
 obtain ⟨A,cap,rfl,hn,hc, -⟩:=hv.open
 have hlen2 : ((L.map (Tr.map (V3.add · d))).map txt).length=L.length:=by rw [List.length_map,List.length_map]
 rw [hlen] at hn H1 H3 HV ⊢
 generalize ((L.map (Tr.map (V3.add · d))).map txt)=L2 at *
 generalize L.length=n at *
 clear hle hp hlen hdl hs hd hz hv
 rw [VV_eq]
 generalize rtx d.x=d1 at *
 generalize rtx d.y=d2 at *
 generalize rtx d.z=d3 at *
 go_enter Tryz.func33,Tryz.ntmps33
 go_wp2_with fail
 refine (H1.out _ (hB.below bel) (HV.out.below bel)).mono ?_
 rintro e w1 ⟨rfl,g1⟩
 have hz1 : w.heap.size<w1.heap.size:=hzs g1
 have B1:=bn (w:=w) bel g1
 have c1_0_0:=bcv g1 w.heap.size 0 (.string d1)
 have f1_0_0:=bfv g1 w.heap.size 0
 have c1_0_1:=bcv g1 w.heap.size 1 (.string d2)
 have f1_0_1:=bfv g1 w.heap.size 1
 have c1_0_2:=bcv g1 w.heap.size 2 (.string d3)
 have f1_0_2:=bfv g1 w.heap.size 2
 clear g1
 go_wp2_with fail
 refine (H2.out _ (hB.below bel)).mono ?_
 rintro e w2 ⟨rfl,g2⟩
 have hz2 : w.heap.size<w2.heap.size:=hzs g2
 have B2:=bn (w:=w) bel g2
 have c2_0_0:=bcv g2 w.heap.size 0 (.string d1)
 have f2_0_0:=bfv g2 w.heap.size 0
 have c2_0_1:=bcv g2 w.heap.size 1 (.string d2)
 have f2_0_1:=bfv g2 w.heap.size 1
 have c2_0_2:=bcv g2 w.heap.size 2 (.string d3)
 have f2_0_2:=bfv g2 w.heap.size 2
 clear g2
 go_wp2_with fail
 refine (H3.out w.heap.size _ (hB.below bel) (HV.out.below bel) ⟨c2_0_0,c2_0_1,c2_0_2⟩).mono ?_
 rintro e w3 ⟨u,rfl,hu,g3⟩
 have B3:=bn (w:=w) bel g3
 clear g3
 obtain ⟨A2,cap2,rfl, -, -, -⟩:=hu.open
 rw [hlen2] at hu ⊢
 have HU:=Lib.hid hu
 clear hu hlen2
 go_wp2
 go_ret2
 exact ⟨_,rfl,⟨_,rfl,HU.out⟩,bel⟩
end Go.Proofs.YtopfedbhkfdjkaaGreatDoor

namespace Go.Proofs.YtopfedbhkfdjkaaGreatDoor
open Go Go.RowKit
section
variable {α β : Type}
variable [DecidableEq α] [DecidableEq β]
end
def movT (d : V3) (t : Tr V3) : Tr V3:=t.map (V3.add · d)
theorem add_back (p d : V3) : (p.add d).add (d.smul (-1))=p:=by
 obtain ⟨x,y,z⟩:=p
 simp only [V3.add,V3.smul,V3.mk.injEq]
 refine ⟨?_, ?_, ?_⟩<;>grind
theorem add_apart (d : V3) (x y : V3) (h : x.add d=y.add d) : x=y:=by rw [← add_back x d,h,add_back]
end Go.Proofs.YtopfedbhkfdjkaaGreatDoor

namespace Go.Proofs.YtopfedbhkfdjkaaGreatDoor
section
variable {p q : Pl} {f : V3→V3}
theorem edgeA_map (hf : ∀ x y,f x=f y→x=y) (hx : ∀ a b,crossV q (f a) (f b)=f (crossV p a b)) (a b c : V3) (above : Bool) : edgeA q (f a) (f b) (f c) above=(edgeA p a b c above).map (e2 f):=by
 unfold edgeA
 rw [hx,hx]
 by_cases h : crossV p a b=crossV p a c
 ·rw [if_pos h,if_pos (by rw [h])]; rfl
 ·rw [if_neg h,if_neg (fun e=>h (hf _ _ e))]
  cases above<;>rfl
theorem rest_map (hx : ∀ a b,crossV q (f a) (f b)=f (crossV p a b)) (a b c : V3) : rest q (f a) (f b) (f c)=(rest p a b c).map (Tr.map f):=by
 unfold rest
 rw [hx,hx]
 rfl
theorem lone_map (hx : ∀ a b,crossV q (f a) (f b)=f (crossV p a b)) (a b c : V3) : [lone q (f a) (f b) (f c)]=[lone p a b c].map (Tr.map f):=by
 unfold lone
 rw [hx,hx]
 rfl
theorem tri_map (hf : ∀ x y,f x=f y→x=y) (hu : ∀ a,upP q (f a)=upP p a) (hx : ∀ a b,crossV q (f a) (f b)=f (crossV p a b)) (t : Tr V3) :
  dnT q (t.map f)=(dnT p t).map (Tr.map f)∧upT q (t.map f)=(upT p t).map (Tr.map f)∧seT q (t.map f)=(seT p t).map (e2 f):=by
 obtain ⟨a,b,c⟩:=t
 unfold dnT upT seT Tr.map
 dsimp only
 rw [hu,hu,hu]
 cases ha : upP p a<;>cases hb : upP p b<;>cases hc : upP p c<;>dsimp only
 ·exact ⟨rfl,rfl,rfl⟩
 ·exact ⟨rest_map hx c a b,lone_map hx c a b,edgeA_map hf hx c a b true⟩
 ·exact ⟨rest_map hx b c a,lone_map hx b c a,edgeA_map hf hx b c a true⟩
 ·exact ⟨lone_map hx a b c,rest_map hx a b c,edgeA_map hf hx a b c false⟩
 ·exact ⟨rest_map hx a b c,lone_map hx a b c,edgeA_map hf hx a b c true⟩
 ·exact ⟨lone_map hx b c a,rest_map hx b c a,edgeA_map hf hx b c a false⟩
 ·exact ⟨lone_map hx c a b,rest_map hx c a b,edgeA_map hf hx c a b false⟩
 ·exact ⟨rfl,rfl,rfl⟩
theorem cut_map (hf : ∀ x y,f x=f y→x=y) (hu : ∀ a,upP q (f a)=upP p a) (hx : ∀ a b,crossV q (f a) (f b)=f (crossV p a b)) : ∀ l : List (Tr V3),
  dnL q (l.map (Tr.map f))=(dnL p l).map (Tr.map f)∧upL q (l.map (Tr.map f))=(upL p l).map (Tr.map f)∧seL q (l.map (Tr.map f))=(seL p l).map (e2 f)
 | []=>⟨rfl,rfl,rfl⟩
 | t :: l=>by
  obtain ⟨h1,h2,h3⟩:=cut_map hf hu hx l
  obtain ⟨h4,h5,h6⟩:=tri_map hf hu hx t
  refine ⟨?_, ?_, ?_⟩
  ·show dnT q (t.map f)++dnL q (l.map (Tr.map f))=(dnT p t++dnL p l).map _
   rw [h1,h4,List.map_append]
  ·show upT q (t.map f)++upL q (l.map (Tr.map f))=(upT p t++upL p l).map _
   rw [h2,h5,List.map_append]
  ·show seT q (t.map f)++seL q (l.map (Tr.map f))=(seT p t++seL p l).map _
   rw [h3,h6,List.map_append]
theorem capX_map (hf : ∀ x y,f x=f y→x=y) (o : V3) (above : Bool) : ∀ s : List (V3 × V3),(s.map (e2 f)).flatMap (capX (f o) above)=(s.flatMap (capX o above)).map (Tr.map f)
 | []=>rfl
 | x :: s=>by
  obtain ⟨a,b⟩:=x
  show capX (f o) above (f a,f b)++(s.map (e2 f)).flatMap (capX (f o) above)=(capX o above (a,b)++s.flatMap (capX o above)).map _
  rw [capX_map hf o above s,List.map_append]
  congr 1
  unfold capX
  dsimp only
  by_cases h : a=o∨b=o
  ·rw [if_pos h,if_pos (h.imp (fun e=>by rw [e]) (fun e=>by rw [e]))]; rfl
  ·rw [if_neg h,if_neg (fun e=>h (e.imp (hf _ _) (hf _ _)))]
   cases above<;>rfl
theorem capL_map (hf : ∀ x y,f x=f y→x=y) (s : List (V3 × V3)) (above : Bool) : capL (s.map (e2 f)) above=(capL s above).map (Tr.map f):=by
 cases s with
 | nil=>rfl
 | cons x s=>exact capX_map hf x.1 above (x :: s)
theorem parts_map (hf : ∀ x y,f x=f y→x=y) (hu : ∀ a,upP q (f a)=upP p a) (hx : ∀ a b,crossV q (f a) (f b)=f (crossV p a b)) (l : List (Tr V3)) :
  underL q (l.map (Tr.map f))=(underL p l).map (Tr.map f)∧overL q (l.map (Tr.map f))=(overL p l).map (Tr.map f):=by
 obtain ⟨h1,h2,h3⟩:=cut_map hf hu hx l
 unfold underL overL
 rw [h1,h2,h3,capL_map hf,capL_map hf,List.map_append,List.map_append]
 exact ⟨rfl,rfl⟩
end
def Pl.move (p : Pl) (d : V3) : Pl:=⟨p.n,p.c+p.n.dot d⟩
theorem move_height (p : Pl) (a d : V3) : (p.move d).height (a.add d)=p.height a:=by
 unfold Pl.move Pl.height V3.add V3.dot
 dsimp only
 grind
theorem under_move (p : Pl) (d : V3) (l : List (Tr V3)) : underL (p.move d) (l.map (movT d))=(underL p l).map (movT d) :=
 (parts_map (p:=p) (q:=p.move d) (f:=(V3.add · d)) (add_apart d) (fun a=>by unfold upP; rw [move_height]) (fun a b=>by
  unfold crossV
  rw [move_height,move_height]
  generalize p.height a / (p.height a - p.height b)=k
  obtain ⟨a1,a2,a3⟩:=a
  obtain ⟨b1,b2,b3⟩:=b
  obtain ⟨d1,d2,d3⟩:=d
  unfold V3.add V3.sub V3.smul
  simp only [V3.mk.injEq]
  refine ⟨?_, ?_, ?_⟩<;>grind) l).1
def Pl.long (p : Pl) (k : Rat) : Pl:=⟨p.n.smul k,p.c * k⟩
theorem long_height (p : Pl) (k : Rat) (a : V3) : (p.long k).height a=p.height a * k:=by
 unfold Pl.long Pl.height V3.smul V3.dot
 dsimp only
 grind
theorem under_long (p : Pl) {k : Rat} (hk : 0<k) (l : List (Tr V3)) : underL (p.long k) l=underL p l:=by
 have hmap : ∀ m : List (Tr V3),m.map (Tr.map id)=m:=fun m=>by
  have : Tr.map (id : V3→V3)=id:=funext fun t=>by cases t; rfl
  rw [this,List.map_id]
 have:=(parts_map (p:=p) (q:=p.long k) (f:=id) (fun x y h=>h) (fun a=>by
  unfold upP id
  rw [long_height]
  by_cases h : 0<p.height a
  ·rw [decide_eq_true h,decide_eq_true (Rat.mul_pos h hk)]
  ·rw [decide_eq_false h,decide_eq_false (fun h2=>h ((Rat.mul_pos_iff_of_pos_right hk).1 h2))]) (fun a b=>by
  unfold crossV id
  rw [long_height,long_height]
  congr 2
  by_cases hz : p.height a - p.height b=0
  ·rw [show p.height a * k - p.height b * k=(p.height a - p.height b) * k by grind,hz,Rat.zero_mul,Rat.div_def,Rat.div_def,Rat.inv_zero,Rat.mul_zero,Rat.mul_zero]
  ·generalize p.height a=x at *
   generalize p.height b=y at *
   grind) l).1
 rw [hmap,hmap] at this
 exact this
end Go.Proofs.YtopfedbhkfdjkaaGreatDoor

namespace Go.Proofs.YtopfedbhkfdjkaaGreatDoor
open Go Go.ChangeShapes Go.WideShapes Go.ChangeAt Go.RowKit Go.Joins
open Go.ChangeMaps (open_string shut_string)
theorem vec_reads {H : Type} {enc : TypeId × Value→H} (W' : World) (b : Nat) (sp : Nat→Bool) (hd : Bool) (x y z : ByteArray) (hx : x.size≤maxLen) (hy : y.size≤maxLen) (hz : z.size≤maxLen) :
  DataW.Trod enc Tryz.prog W' b sp hd 26 (.agg #[.string x,.string y,.string z]) (.agg [.lit (.string x.data.toList),.lit (.string y.data.toList),.lit (.string z.data.toList)]) []:=by
 simpa using shut_agg3 (enc:=enc) (w:=W') (base:=b) (spare:=sp) (held:=hd) (y0:=(.lit (.string x.data.toList),[])) (y1:=(.lit (.string y.data.toList),[])) (y2:=(.lit (.string z.data.toList),[])) Tryz.underlying26 (by kernel_rfl) (by kernel_rfl)
  ⟨1,by simp [DataW.trod,Value.cells,Tryz.underlying24,hx]⟩ ⟨1,by simp [DataW.trod,Value.cells,Tryz.underlying24,hy]⟩ ⟨1,by simp [DataW.trod,Value.cells,Tryz.underlying24,hz]⟩
def noVec : Value:=.agg #[.string ⟨#[]⟩,.string ⟨#[]⟩,.string ⟨#[]⟩]
end Go.Proofs.YtopfedbhkfdjkaaGreatDoor

/- clip: Between and Slices on numbers; law of chapter 13: awake is true. -/
namespace Go.Proofs.YtopfedbhkfdjkaaGreatDoor
open Go Go.RowKit
theorem leT_mono {L : List (Tr V3)} {k m : Nat} (h : leT L k) (hm : k≤m) : leT L m:=fun t ht=>⟨(h t ht).1.mono hm,(h t ht).2.1.mono hm,(h t ht).2.2.mono hm⟩
theorem under_ck {p : Pl} {L : List (Tr V3)} (hk : chkC (L.map txt)=0) (hS : (underL p L).length≤512) : chkC ((underL p L).map txt)=0 :=
 chk_ok hS (under_closed (by rw [← open_txt]; exact (chkC_zero hk).2.2) p)
theorem over_ck {p : Pl} {L : List (Tr V3)} (hk : chkC (L.map txt)=0) (hS : (overL p L).length≤512) : chkC ((overL p L).map txt)=0 :=
 chk_ok hS (over_closed (by rw [← open_txt]; exact (chkC_zero hk).2.2) p)
theorem cBetween_ok {n : V3} {a b : Rat} {L : List (Tr V3)} (h0 : n≠V3.zero) (hn : n.le 500) (ha : rz a≤500) (hb : rz b≤500) (hL : leT L 500) (hk : chkC (L.map txt)=0) (hl : L.length≤50) (hab : a<b) (v : Value) (w : World) (hB : Bw w) (hv : Ts w v (L.map txt)) :
  Calls Tryz.prog 23 #[v,VV n,.string (rtx a),.string (rtx b)] w (SolR ((overL ⟨n,a⟩ (underL ⟨n,b⟩ L)).map txt) w):=by
 obtain ⟨A,cap,rfl, -, -, -⟩:=hv.open
 have hll:=(parts_len ⟨n,b⟩ L).1
 have hll2:=(parts_len ⟨n,a⟩ (underL ⟨n,b⟩ L)).2
 have hL1 : leT L 100000:=leT_mono hL (by omega)
 have hp : ∀ c,rz c≤500→(⟨n,c⟩ : Pl).le 100000:=fun c hc=>⟨hn.mono (by omega),by show rz c≤_; omega⟩
 have hL2 : leT (underL ⟨n,b⟩ L) 100000:=(parts_le (k:=500) (m:=500) (p:=⟨n,b⟩) ⟨hn,hb⟩ hL (by omega)).2.2.2.1
 have hk2:=under_ck (p:=⟨n,b⟩) hk (by omega)
 have hc : rcmp a b = -1:=by unfold rcmp; rw [if_pos hab]
 rw [VV_eq]
 refine cBetween_at A _ cap (L.map txt) _ _ _ _ _ w hB hv ((underL ⟨n,b⟩ L).map txt) _ (fun w hB hv=>ck_ok h0 (hp a ha) hL1 hk _ w hB hv) (fun w hB hv=>ck_ok h0 (hp b hb) hL1 hk _ w hB hv) ?_ ?_ ?_
 ·intro w hB
  have:=rCompare_walk a b (by omega) (by omega) w hB
  rw [hc] at this
  exact this
 ·intro w hB hv
  exact cBelow_ok h0 (hp b hb) hL1 hk _ w hB hv (by omega)
 ·intro v w hB hv
  exact cAbove_ok h0 (hp a ha) hL2 hk2 _ w hB hv (by omega)
theorem cplane_ok {p : Pl} (h0 : p.n≠V3.zero) (hp : p.le 100000) (w : World) (hB : Bw w) :
  Calls Tryz.prog 60 #[.agg #[.string (rtx p.n.x),.string (rtx p.n.y),.string (rtx p.n.z),.string (rtx p.c)]] w fun e w'=>e=.returned (.int .i64 0)∧Below w.heap.size w w':=by
 have hn:=txv_le hp.1
 have hc:=rtx_size p.c
 have hc2:=hp.2
 have:=cplane_walk (txv p.n) (rtx p.c) ⟨by have:=hn.1; omega,by have:=hn.2.1; omega,by have:=hn.2.2; omega⟩ (by omega) w hB
 rw [plS_txt h0] at this
 exact this
noncomputable def rOf (c : ByteArray) : Rat:=Classical.epsilon fun q=>rtx q=c
theorem rOf_rtx (q : Rat) : rOf (rtx q)=q:=rtx_inj (Classical.epsilon_spec (p:=fun x=>rtx x=rtx q) ⟨q,rfl⟩)
theorem cSlices_ok {n : V3} {L : List (Tr V3)} (h0 : n≠V3.zero) (hn : n.le 100000) (hL : leT L 100000) (hk : chkC (L.map txt)=0) (cs : List Rat) (hc : ∀ c ∈ cs,rz c≤100000) (hm : cs.length≤32) (v u : Value) (w : World) (hB : Bw w) (hv : Ts w v (L.map txt)) (hu : Rs w u (cs.map rtx)) :
  Calls Tryz.prog 25 #[v,VV n,u] w (SlR (cs.map fun c=>(seL ⟨n,c⟩ L).map txe) w):=by
 obtain ⟨A,cap,rfl, -, -, -⟩:=hv.open
 obtain ⟨_,A2,cap2,rfl,hq2,hq3,hq4⟩:=hu
 have hu : Rs w (.slice A2 (cs.map rtx).length cap2) (cs.map rtx):=⟨‹_›,A2,cap2,rfl,hq2,hq3,hq4⟩
 have hl:=(chkC_zero hk).1
 have hz : rtx 0=⟨#[48]⟩:=rtx_zero
 have hmem : ∀ c ∈ (⟨#[48]⟩ :: cs.map rtx : List ByteArray),∃ q,c=rtx q∧rz q≤100000:=by
  intro c hcm
  rcases List.mem_cons.1 hcm with rfl | hcm
  ·exact ⟨0,hz.symm,by rw [rz_zero]; omega⟩
  ·obtain ⟨q,hq,rfl⟩:=List.mem_map.1 hcm
   exact ⟨q,rfl,hc q hq⟩
 have e : (cs.map fun c=>(seL ⟨n,c⟩ L).map txe)=(cs.map rtx).map fun c=>(seL ⟨n,rOf c⟩ L).map txe:=by
  rw [List.map_map]
  refine List.map_congr_left fun c _=>?_
  show _=(seL ⟨n,rOf (rtx c)⟩ L).map txe
  rw [rOf_rtx]
 rw [e,VV_eq]
 refine cSlices_at A A2 _ cap _ cap2 (L.map txt) (cs.map rtx) _ _ _ w hB hv hu (by rw [List.length_map]; exact hm) (fun w hB hv=>?_) (fun c hcm w hB=>?_) (fun c=>(dnL ⟨n,rOf c⟩ L).map txt) (fun c=>(upL ⟨n,rOf c⟩ L).map txt) _ (fun c hcm w hB hv=>?_)
 ·have:=check_walk _ (L.map txt) w hB hv (tle_txt hL (by omega))
  rw [hk] at this
  exact this
 ·obtain ⟨q,rfl,hq⟩:=hmem c hcm
  exact cplane_ok (p:=⟨n,q⟩) h0 ⟨hn,hq⟩ w hB
 ·obtain ⟨q,hq,rfl⟩:=List.mem_map.1 hcm
  rw [rOf_rtx]
  rw [List.length_map] at hv ⊢
  exact (csplit_walk L ⟨n,q⟩ h0 ⟨hn,hc q hq⟩ hL (by rw [List.length_map] at hl; omega) A cap w hB hv).mono fun _ _ h=>h.texts
/-! ### The example of the chapter -/
def nz : V3:=⟨0,0,1⟩
def nx : V3:=⟨1,0,0⟩
def pz1 : Pl:=⟨nz,1 / 2⟩
def pz2 : Pl:=⟨nz,1⟩
theorem rtx_half : rtx (1 / 2)=⟨#[49,47,50]⟩:=by decide +kernel
theorem nz_ne : nz≠V3.zero:=by unfold nz V3.zero; decide
theorem nx_ne : nx≠V3.zero:=by unfold nx V3.zero; decide
theorem nz_le : nz.le 1:=by unfold V3.le; decide +kernel
theorem nx_le : nx.le 1:=by unfold V3.le; decide +kernel
theorem half_le : rz (1 / 2)≤1:=by decide +kernel
theorem one_le : rz 1≤1:=by decide +kernel
theorem len_under : (underL pz1 box0).length=20:=by decide +kernel
theorem len_over : (overL pz1 box0).length=20:=by decide +kernel
theorem len_sec : (seL pz1 box0).length=8:=by decide +kernel
theorem len_mid : 0<(overL ⟨nx,1 / 2⟩ (underL ⟨nx,1⟩ box0)).length:=by decide +kernel
theorem len_slc : (seL ⟨nx,1⟩ box0).length=8:=by decide +kernel
theorem top_low : allP (fun q=>pz2.height q≤0) box0:=by unfold allP; decide +kernel
theorem PV_pz1 : PV pz1=.agg #[.string ⟨#[48]⟩,.string ⟨#[48]⟩,.string ⟨#[49]⟩,.string ⟨#[49,47,50]⟩]:=by
 rw [PV_eq]; simp only [pz1,nz,rtx_zero,rtx_one,rtx_half]
theorem PV_pz2 : PV pz2=.agg #[.string ⟨#[48]⟩,.string ⟨#[48]⟩,.string ⟨#[49]⟩,.string ⟨#[49]⟩]:=by
 rw [PV_eq]; simp only [pz2,nz,rtx_zero,rtx_one]
theorem VV_nx : VV nx=.agg #[.string ⟨#[49]⟩,.string ⟨#[48]⟩,.string ⟨#[48]⟩]:=by
 rw [VV_eq]; simp only [nx,rtx_zero,rtx_one]
theorem awake13_walk (w : World) (hB : Bw w) :
  Calls Tryz.prog 10 #[] w fun e w'=>e=.returned (.bool true)∧Below w.heap.size w w':=by
 have hb : chkC (box0.map txt)=0:=chk_ok (by rw [box0_len]; omega) box0_closed
 have hL : leT box0 1:=box0_le
 have hL1 : leT box0 100000:=leT_mono hL (by omega)
 have h1 : pz1.n≠V3.zero:=nz_ne
 have h2 : pz2.n≠V3.zero:=nz_ne
 have hp1 : pz1.le 1:=⟨nz_le,half_le⟩
 have hp2 : pz2.le 1:=⟨nz_le,one_le⟩
 have hq1 : pz1.le 100000:=⟨hp1.1.mono (by omega),Nat.le_trans hp1.2 (by omega)⟩
 have hq2 : pz2.le 100000:=⟨hp2.1.mono (by omega),Nat.le_trans hp2.2 (by omega)⟩
 have hpl:=parts_le (p:=pz1) (n:=100000) hp1 hL (by omega)
 have hck : ∀ L,leT L 100000→chkC (L.map txt)=0→∀ v w,Bw w→Ts w v (L.map txt)→Calls Tryz.prog 29 #[v] w fun e w'=>e=.returned (.int .i64 0)∧Below w.heap.size w w':=by
  intro L hl hk v w hB hv
  have:=check_walk v (L.map txt) w hB hv (tle_txt hl (by omega))
  rw [hk] at this
  exact this
 refine awake13_at (box0.map txt) ((underL pz1 box0).map txt) ((overL pz1 box0).map txt) ((overL ⟨nx,1 / 2⟩ (underL ⟨nx,1⟩ box0)).map txt) ((seL pz1 box0).map txe) ((seL ⟨nx,1⟩ box0).map txe) w hB (by rw [List.length_map,box0_len]) (by rw [List.length_map,len_under]; omega) (by rw [List.length_map,len_over]; omega) ?_ (by rw [List.length_map,len_sec]) (by rw [List.length_map,len_slc]) ?_ ?_ ?_ ?_ ?_ ?_ ?_ ?_ ?_ ?_ ?_
 rotate_left
 ·intro w hB
  have:=mbox_ok lo0 hi0 lo0_le hi0_le lo0_lt w hB
  rw [VV_lo0,VV_hi0] at this
  exact this
 ·intro v w hB hv
  have:=cBelow_ok h1 hq1 hL1 hb v w hB hv (by rw [len_under]; omega)
  rwa [PV_pz1] at this
 ·intro v w hB hv
  have:=cAbove_ok h1 hq1 hL1 hb v w hB hv (by rw [len_over]; omega)
  rwa [PV_pz1] at this
 ·intro v w hB hv
  have:=cSection_ok h1 hq1 hL1 hb v w hB hv
  rwa [PV_pz1] at this
 ·intro v w hB hv
  have e:=(parts_low top_low).1
  have:=cBelow_ok h2 hq2 hL1 hb v w hB hv (by rw [e,box0_len]; omega)
  rwa [PV_pz2,e] at this
 ·intro v w hB hv
  have e:=(cut_low top_low).2.2
  have:=cSection_ok h2 hq2 hL1 hb v w hB hv
  rwa [PV_pz2,e] at this
 ·intro v w hB hv
  have:=cBetween_ok (a:=1 / 2) (b:=1) nx_ne (nx_le.mono (by omega)) (Nat.le_trans half_le (by omega)) (Nat.le_trans one_le (by omega)) (leT_mono hL (by omega)) hb (by rw [box0_len]; omega) (by decide +kernel) v w hB hv
  rw [VV_nx,rtx_half,rtx_one] at this
  exact this
 ·intro v u w hB hv hu
  have:=cSlices_ok (n:=nx) nx_ne (nx_le.mono (by omega)) hL1 hb [1] (fun c hc=>by simp at hc; subst hc; exact Nat.le_trans one_le (by omega)) (by simp) v u w hB hv (by simpa [rtx_one] using hu)
  rw [VV_nx] at this
  exact this
 ·exact hck _ hpl.2.2.2.1 (under_ck hb (by rw [len_under]; omega))
 ·exact hck _ hpl.2.2.2.2 (over_ck hb (by rw [len_over]; omega))
 ·intro v1 v2 w h1 h2
  exact refSame_walk v1 v2 _ w h1 h2
 ·rw [List.length_map]; exact len_mid
end Go.Proofs.YtopfedbhkfdjkaaGreatDoor

/- laws of chapter 13: small inputs, and what clip answers on them. -/
namespace Go.Proofs.YtopfedbhkfdjkaaGreatDoor
open Go Go.RowKit
theorem few13_parts {l : List TV} {s : SV} {c : ByteArray} (h : few13 l s c=true) : fewT l=true∧isFew s=true∧c.size≤20:=by
 unfold few13 at h
 simp only [Bool.and_eq_true,decide_eq_true_eq] at h
 exact h
theorem few13_len {l : List TV} {s : SV} {c : ByteArray} (h : few13 l s c=true) : l.length≤513:=few_len (few13_parts h).1
theorem clone13 (l : List TV) (hm : l.length≤513) : ∀ (A : Option Addr) (cap : Nat) (w : World),Ts w (.slice A l.length cap) l →
  Calls Tryz.prog 13 #[.slice A l.length cap] w (Ret fun r w'=>(∃ A c,r=.slice A l.length c∧Ts w' (.slice A l.length c) l)∧Below w.heap.size w w') :=
 fun A cap w hv=>clone_sl _ l _ rfl (by omega) w hv
theorem few_short {l : List TV} (h : fewT l=true) (hn : l.length≤512) : l.length≤40:=by
 unfold fewT fewLen at h
 simp only [Bool.and_eq_true,Bool.or_eq_true,decide_eq_true_eq] at h
 omega
theorem in13 {l : List TV} {s : SV} {c : ByteArray} (h : few13 l s c=true) : (∃ (L : List (Tr V3)) (p : Pl),l=L.map txt∧s=txv p.n∧c=rtx p.c∧p.n≠V3.zero∧p.le 20∧leT L 20∧chkC (L.map txt)=0∧L.length≤40)∨chkS l s c≠0:=by
 obtain ⟨h1,h2,h3⟩:=few13_parts h
 by_cases hz : chkS l s c=0
 ·unfold chkS at hz
  by_cases hk : chkC l=0
  ·rw [if_pos hk] at hz
   obtain ⟨k1,k2,k3⟩:=chkC_zero hk
   obtain ⟨L,rfl⟩:=solid_of k2
   rcases plS_cases s c with hp | ⟨p,rfl,rfl,h0,_⟩
   ·rw [hp] at hz; cases hz
   ·refine .inl ⟨L,p,rfl,rfl,rfl,h0,⟨few_le h2,rz_few h3⟩,few_leT h1,hk, ?_⟩
    have:=few_short h1 k1
    rwa [List.length_map] at this
  ·rw [if_neg hk] at hz
   exact absurd hz hk
 ·exact .inr hz
theorem bad13 {l : List TV} {s : SV} {c : ByteArray} (h : few13 l s c=true) (hz : chkS l s c≠0) :
  (∀ v w,Bw w→Ts w v l→Calls Tryz.prog 12 #[v,.agg #[.string s.x,.string s.y,.string s.z,.string c]] w fun e w'=>e=.returned (.tuple #[.slice none 0 0,.int .i64 (chkS l s c)])∧Below w.heap.size w w') ∧
  (∀ v w,Bw w→Ts w v l→Calls Tryz.prog 15 #[v,.agg #[.string s.x,.string s.y,.string s.z,.string c]] w fun e w'=>e=.returned (.tuple #[.slice none 0 0,.int .i64 (chkS l s c)])∧Below w.heap.size w w') ∧
  (∀ v w,Bw w→Ts w v l→Calls Tryz.prog 17 #[v,.agg #[.string s.x,.string s.y,.string s.z,.string c]] w fun e w'=>e=.returned (.tuple #[.slice none 0 0,.int .i64 (chkS l s c)])∧Below w.heap.size w w'):=by
 obtain ⟨h1,h2,h3⟩:=few13_parts h
 have hs:=few_sv h2
 have hs2 : s.le 1000000:=by
  simp only [isFew,Bool.and_eq_true,decide_eq_true_eq] at h2
  exact ⟨by have:=h2.1.1; omega,by have:=h2.1.2; omega,by have:=h2.2; omega⟩
 have hk : ∀ v w,Bw w→Ts w v l→_:=fun v w hB hv=>ccheck_walk v l s c w hB hv (few_tle h1) hs2 (by omega)
 have hb : (chkS l s c != 0)=true:=by simpa using hz
 refine ⟨fun v w hB hv=>?_,fun v w hB hv=>?_,fun v w hB hv=>?_⟩
 ·obtain ⟨A,cap,rfl, -, -, -⟩:=hv.open
  exact cBelow_bad A _ cap l _ _ _ _ w hB hv _ hb (fun w hB hv=>hk _ w hB hv)
 ·obtain ⟨A,cap,rfl, -, -, -⟩:=hv.open
  exact cAbove_bad A _ cap l _ _ _ _ w hB hv _ hb (fun w hB hv=>hk _ w hB hv)
 ·obtain ⟨A,cap,rfl, -, -, -⟩:=hv.open
  exact cSection_bad A _ cap l _ _ _ _ w hB hv _ hb (fun w hB hv=>hk _ w hB hv)
section
variable {p : Pl} {L : List (Tr V3)} (h0 : p.n≠V3.zero) (hp : p.le 100000) (hL : leT L 100000) (hk : chkC (L.map txt)=0) (v : Value) (w : World) (hB : Bw w) (hv : Ts w v (L.map txt))
include h0 hp hL hk hB hv
theorem cBelow13 (hS : (underL p L).length≤512) : Calls Tryz.prog 12 #[v,.agg #[.string (rtx p.n.x),.string (rtx p.n.y),.string (rtx p.n.z),.string (rtx p.c)]] w (SolR ((underL p L).map txt) w):=by
 have:=cBelow_ok h0 hp hL hk v w hB hv hS
 rwa [PV_eq] at this
end
end Go.Proofs.YtopfedbhkfdjkaaGreatDoor

/- law of chapter 13: ClipSides: the walk. -/
namespace Go.Proofs.YtopfedbhkfdjkaaGreatDoor
open Go Go.RowKit
end Go.Proofs.YtopfedbhkfdjkaaGreatDoor

/- Solids in plain Lean: neither the order of the triangles nor which point of a triangle is the first one matters for closedness, convexity and shells. No program in sight. -/
namespace Go.Proofs.YtopfedbhkfdjkaaGreatDoor
open Go Go.RowKit
section
variable {α : Type}
variable [DecidableEq α]
/-! ### What the roots say -/
end
end Go.Proofs.YtopfedbhkfdjkaaGreatDoor

/- law of chapter 12: MeshOrder: its walk. -/
namespace Go.Proofs.YtopfedbhkfdjkaaGreatDoor
open Go Go.RowKit
/-! ### Parts of a row -/
section
variable {P : Program} {ops : Array Oper} {o : Oper} {a : Act} {K : Act→World→Prop} {Q : Exit→Act→World→Prop} {E : Prop}
end
/-! ### A triangle stored into a row of triangles -/
end Go.Proofs.YtopfedbhkfdjkaaGreatDoor

/- law of chapter 13: ClipConvex: solid, and the law's walk. -/
namespace Go.Proofs.YtopfedbhkfdjkaaGreatDoor
open Go Go.RowKit
end Go.Proofs.YtopfedbhkfdjkaaGreatDoor

/- vector.Range on numbers. -/
namespace Go.Proofs.YtopfedbhkfdjkaaGreatDoor
open Go Go.RowKit
end Go.Proofs.YtopfedbhkfdjkaaGreatDoor

/- law of chapter 13: ClipAgain: the walk. -/
namespace Go.Proofs.YtopfedbhkfdjkaaGreatDoor
open Go Go.RowKit
end Go.Proofs.YtopfedbhkfdjkaaGreatDoor

/- vector.Dot on numbers. -/
namespace Go.Proofs.YtopfedbhkfdjkaaGreatDoor
open Go Go.RowKit
set_option maxHeartbeats 1000000 in
theorem vDot_walk (a b : V3) (ha : a.le 100000) (hb : b.le 100000) (w : World) (hB : Bw w) :
  Calls Tryz.prog 34 #[VV a,VV b] w fun e w'=>e=.returned (.tuple #[.string (rtx (a.dot b)),.int .i64 0])∧Below w.heap.size w w':=by
 have H:=Lib.hid (fun w hB=>vdot_walk a b (ha.mono (by omega)) (hb.mono (by omega)) w hB)
 have K : Hid (∀ (W : World) (p : Nat),Bw W→p=W.heap.size→Calls Tryz.prog 71 #[.slice (some ⟨p,0,none⟩) 2 2] (W.alloc (.cells #[.string (rtx a.x),.string (rtx a.y),.string (rtx a.z),.string (rtx b.x),.string (rtx b.y),.string (rtx b.z)] 26)) fun e w'=>e=.returned (.int .i64 0)∧Below (W.alloc (.cells #[.string (rtx a.x),.string (rtx a.y),.string (rtx a.z),.string (rtx b.x),.string (rtx b.y),.string (rtx b.z)] 26)).heap.size (W.alloc (.cells #[.string (rtx a.x),.string (rtx a.y),.string (rtx a.z),.string (rtx b.x),.string (rtx b.y),.string (rtx b.z)] 26)) w'):=Lib.hid (fun W p hW hp=>by
  subst hp
  have:=vcheck_walk (.slice (some ⟨W.heap.size,0,none⟩) 2 2) (tvs [a,b]) _ (hW.below (ba (br W))) (vs_lit W (tvs [a,b]) #[.string (rtx a.x),.string (rtx a.y),.string (rtx a.z),.string (rtx b.x),.string (rtx b.y),.string (rtx b.z)] 2 W.heap.size rfl rfl (by simp [tvs]) rfl) (tvs_le (k:=100000) (fun p hp=>by
   rcases List.mem_cons.1 hp with rfl | hp
   ·exact ha
   ·cases List.mem_singleton.1 hp
    exact hb) (by omega))
  rwa [chk_yes (tvs_valid _)] at this)
 rw [VV_eq,VV_eq] at H ⊢
 clear ha hb
 generalize rtx a.x=x1 at *
 generalize rtx a.y=x2 at *
 generalize rtx a.z=x3 at *
 generalize rtx b.x=y1 at *
 generalize rtx b.y=y2 at *
 generalize rtx b.z=y3 at *
 generalize rtx (a.dot b)=r at *
 go_enter Tryz.func34,Tryz.ntmps34
 go_wp2_with fail
 refine (K.out _ _ (hB.below bel) (by simp)).mono ?_
 rintro e w1 ⟨rfl,g1⟩
 have KA : Bk w1 w.heap.size [.string x1,.string x2,.string x3]:=Bk.below bkk g1
 have KB : Bk w1 (w.heap.size+1) [.string y1,.string y2,.string y3]:=Bk.below bkk g1
 have B1:=bn (w:=w) bel g1
 clear g1
 obtain ⟨a0,a1,a2, -⟩:=KA.c3
 obtain ⟨b0,b1,b2, -⟩:=KB.c3
 go_wp2_with fail
 refine (H.out _ (hB.below bel)).mono ?_
 rintro e w2 ⟨rfl,g2⟩
 have B2:=bn (w:=w) bel g2
 clear g2
 go_wp2
 refine bodyPost_ret (v:=.tuple #[.string r,.int .i64 0]) (by simp [results,Tryz.results34,go_sem, *]) rfl ⟨(by first | rfl | rw [hI]),bel⟩
end Go.Proofs.YtopfedbhkfdjkaaGreatDoor

/- law of chapter 13: ClipMoves: the walk. -/
namespace Go.Proofs.YtopfedbhkfdjkaaGreatDoor
open Go Go.RowKit
set_option maxHeartbeats 4000000 in
set_option maxRecDepth 100000 in
theorem moves_out (A : Option Addr) (n cap : Nat) (l : List TV) (x1 x2 x3 x4 v1 v2 v3 : ByteArray) (w : World) (hB : Bw w) (hv : Ts w (.slice A n cap) l)
  (hf : ∀ w,Ts w (.slice A n cap) l→Calls Tryz.prog 11 #[.slice A n cap,.agg #[.string x1,.string x2,.string x3,.string x4]] w fun e w'=>e=.returned (.bool false)∧Below w.heap.size w w') :
  Calls Tryz.prog 7 #[.slice A n cap,.agg #[.string x1,.string x2,.string x3,.string x4],.agg #[.string v1,.string v2,.string v3]] w fun e w'=>e=.returned (.bool true)∧Below w.heap.size w w':=by
 have HV:=Lib.hid hv
 clear hv
 have H0:=Lib.hid (fun w hB=>awake13_walk w hB)
 have HF:=Lib.hid hf
 clear hf
 go_enter Tryz.func7,Tryz.ntmps7
 go_wp2_with fail
 refine (H0.out _ (hB.below bel)).mono ?_
 rintro e w1 ⟨rfl,g1⟩
 have HP:=Lib.hid (show Bk w1 w.heap.size [.string x1,.string x2,.string x3,.string x4] from Bk.below bkk g1)
 have HD:=Lib.hid (show Bk w1 (w.heap.size+1) [.string v1,.string v2,.string v3] from Bk.below bkk g1)
 have S1:=bn (w:=w) bel g1
 replace HV:=Lib.hid (HV.out.below S1)
 have B1:=S1
 clear S1 g1
 obtain ⟨p0,p1,p2,p3, -⟩:=HP.out.c4
 have hpl:=HP.out.lt
 go_wp2_with fail
 refine (HF.out _ (HV.out.below bel)).mono ?_
 rintro e w2 ⟨rfl,g2⟩
 clear p0 p1 p2 p3 hpl
 have S2 : Below w1.heap.size w1 w2:=bn bel g2
 clear g2
 replace HV:=Lib.hid (HV.out.below S2)
 replace HP:=Lib.hid (HP.out.below S2)
 replace HD:=Lib.hid (HD.out.below S2)
 have B2 : Below w.heap.size w w2:=bn B1 S2
 clear S2
 go_wp2_with fail
 refine (H0.out _ (hB.below bel)).mono ?_
 rintro e w3 ⟨rfl,g3⟩
 have S3 : Below w2.heap.size w2 w3:=bn bel g3
 clear g3
 replace HV:=Lib.hid (HV.out.below S3)
 replace HP:=Lib.hid (HP.out.below S3)
 replace HD:=Lib.hid (HD.out.below S3)
 have B3 : Below w.heap.size w w3:=bn B2 S3
 clear S3
 go_wp2
 go_ret
 exact ⟨rfl,bel⟩
set_option maxHeartbeats 4000000 in
set_option maxRecDepth 100000 in
theorem moves_out2 (A : Option Addr) (n cap : Nat) (l : List TV) (x1 x2 x3 x4 v1 v2 v3 : ByteArray) (w : World) (hB : Bw w) (hv : Ts w (.slice A n cap) l)
  (hf : ∀ w,Ts w (.slice A n cap) l→Calls Tryz.prog 11 #[.slice A n cap,.agg #[.string x1,.string x2,.string x3,.string x4]] w fun e w'=>e=.returned (.bool true)∧Below w.heap.size w w')
  (hw : ∀ W : World,Calls Tryz.prog 31 #[.slice (some ⟨W.heap.size,0,none⟩) 1 1] (W.alloc (.cells #[.string v1,.string v2,.string v3] 26)) fun e w'=>e=.returned (.bool false)∧Below (W.alloc (.cells #[.string v1,.string v2,.string v3] 26)).heap.size (W.alloc (.cells #[.string v1,.string v2,.string v3] 26)) w') :
  Calls Tryz.prog 7 #[.slice A n cap,.agg #[.string x1,.string x2,.string x3,.string x4],.agg #[.string v1,.string v2,.string v3]] w fun e w'=>e=.returned (.bool true)∧Below w.heap.size w w':=by
 have HV:=Lib.hid hv
 clear hv
 have H0:=Lib.hid (fun w hB=>awake13_walk w hB)
 have HF:=Lib.hid hf
 clear hf
 have HW:=Lib.hid hw
 clear hw
 go_enter Tryz.func7,Tryz.ntmps7
 go_wp2_with fail
 refine (H0.out _ (hB.below bel)).mono ?_
 rintro e w1 ⟨rfl,g1⟩
 have HP:=Lib.hid (show Bk w1 w.heap.size [.string x1,.string x2,.string x3,.string x4] from Bk.below bkk g1)
 have HD:=Lib.hid (show Bk w1 (w.heap.size+1) [.string v1,.string v2,.string v3] from Bk.below bkk g1)
 have S1:=bn (w:=w) bel g1
 replace HV:=Lib.hid (HV.out.below S1)
 have B1:=S1
 clear S1 g1
 obtain ⟨p0,p1,p2,p3, -⟩:=HP.out.c4
 have hpl:=HP.out.lt
 go_wp2_with fail
 refine (HF.out _ (HV.out.below bel)).mono ?_
 rintro e w2 ⟨rfl,g2⟩
 clear p0 p1 p2 p3 hpl
 have S2 : Below w1.heap.size w1 w2:=bn bel g2
 clear g2
 replace HV:=Lib.hid (HV.out.below S2)
 replace HP:=Lib.hid (HP.out.below S2)
 replace HD:=Lib.hid (HD.out.below S2)
 have B2 : Below w.heap.size w w2:=bn B1 S2
 clear S2
 obtain ⟨d0,d1,d2, -⟩:=HD.out.c3
 have hdl:=HD.out.lt
 go_wp2_with fail
 refine (HW.out _).mono ?_
 rintro e w3 ⟨rfl,g3⟩
 clear d0 d1 d2 hdl
 have S3 : Below w2.heap.size w2 w3:=bn bel g3
 clear g3
 replace HV:=Lib.hid (HV.out.below S3)
 replace HP:=Lib.hid (HP.out.below S3)
 replace HD:=Lib.hid (HD.out.below S3)
 have B3 : Below w.heap.size w w3:=bn B2 S3
 clear S3
 go_wp2_with fail
 refine (H0.out _ (hB.below bel)).mono ?_
 rintro e w4 ⟨rfl,g4⟩
 have S4 : Below w3.heap.size w3 w4:=bn bel g4
 clear g4
 replace HV:=Lib.hid (HV.out.below S4)
 replace HP:=Lib.hid (HP.out.below S4)
 replace HD:=Lib.hid (HD.out.below S4)
 have B4 : Below w.heap.size w w4:=bn B3 S4
 clear S4
 go_wp2
 go_ret
 exact ⟨rfl,bel⟩
set_option maxHeartbeats 4000000 in
set_option maxRecDepth 100000 in
theorem moves_many (A : Option Addr) (n cap : Nat) (l : List TV) (x1 x2 x3 x4 v1 v2 v3 : ByteArray) (w : World) (hB : Bw w) (hv : Ts w (.slice A n cap) l)
  (hn : (24 : Int)<(n : Int))
  (hf : ∀ w,Ts w (.slice A n cap) l→Calls Tryz.prog 11 #[.slice A n cap,.agg #[.string x1,.string x2,.string x3,.string x4]] w fun e w'=>e=.returned (.bool true)∧Below w.heap.size w w')
  (hw : ∀ W : World,Calls Tryz.prog 31 #[.slice (some ⟨W.heap.size,0,none⟩) 1 1] (W.alloc (.cells #[.string v1,.string v2,.string v3] 26)) fun e w'=>e=.returned (.bool true)∧Below (W.alloc (.cells #[.string v1,.string v2,.string v3] 26)).heap.size (W.alloc (.cells #[.string v1,.string v2,.string v3] 26)) w') :
  Calls Tryz.prog 7 #[.slice A n cap,.agg #[.string x1,.string x2,.string x3,.string x4],.agg #[.string v1,.string v2,.string v3]] w fun e w'=>e=.returned (.bool true)∧Below w.heap.size w w':=by
 have HV:=Lib.hid hv
 clear hv
 have H0:=Lib.hid (fun w hB=>awake13_walk w hB)
 have HF:=Lib.hid hf
 clear hf
 have HW:=Lib.hid hw
 clear hw
 go_enter Tryz.func7,Tryz.ntmps7
 go_wp2_with fail
 refine (H0.out _ (hB.below bel)).mono ?_
 rintro e w1 ⟨rfl,g1⟩
 have HP:=Lib.hid (show Bk w1 w.heap.size [.string x1,.string x2,.string x3,.string x4] from Bk.below bkk g1)
 have HD:=Lib.hid (show Bk w1 (w.heap.size+1) [.string v1,.string v2,.string v3] from Bk.below bkk g1)
 have S1:=bn (w:=w) bel g1
 replace HV:=Lib.hid (HV.out.below S1)
 have B1:=S1
 clear S1 g1
 obtain ⟨p0,p1,p2,p3, -⟩:=HP.out.c4
 have hpl:=HP.out.lt
 go_wp2_with fail
 refine (HF.out _ (HV.out.below bel)).mono ?_
 rintro e w2 ⟨rfl,g2⟩
 clear p0 p1 p2 p3 hpl
 have S2 : Below w1.heap.size w1 w2:=bn bel g2
 clear g2
 replace HV:=Lib.hid (HV.out.below S2)
 replace HP:=Lib.hid (HP.out.below S2)
 replace HD:=Lib.hid (HD.out.below S2)
 have B2 : Below w.heap.size w w2:=bn B1 S2
 clear S2
 obtain ⟨d0,d1,d2, -⟩:=HD.out.c3
 have hdl:=HD.out.lt
 go_wp2_with fail
 refine (HW.out _).mono ?_
 rintro e w3 ⟨rfl,g3⟩
 clear d0 d1 d2 hdl
 have S3 : Below w2.heap.size w2 w3:=bn bel g3
 clear g3
 replace HV:=Lib.hid (HV.out.below S3)
 replace HP:=Lib.hid (HP.out.below S3)
 replace HD:=Lib.hid (HD.out.below S3)
 have B3 : Below w.heap.size w w3:=bn B2 S3
 clear S3
 go_wp2_with fail
 refine (H0.out _ (hB.below bel)).mono ?_
 rintro e w4 ⟨rfl,g4⟩
 have S4 : Below w3.heap.size w3 w4:=bn bel g4
 clear g4
 replace HV:=Lib.hid (HV.out.below S4)
 replace HP:=Lib.hid (HP.out.below S4)
 replace HD:=Lib.hid (HD.out.below S4)
 have B4 : Below w.heap.size w w4:=bn B3 S4
 clear S4
 go_wp2
 go_ret
 exact ⟨rfl,bel⟩
set_option maxHeartbeats 4000000 in
set_option maxRecDepth 100000 in
theorem moves_badv (A : Option Addr) (n cap : Nat) (l : List TV) (x1 x2 x3 x4 v1 v2 v3 : ByteArray) (w : World) (hB : Bw w) (hv : Ts w (.slice A n cap) l)
  (hn24 : (n : Int)≤24)
  (hf : ∀ w,Ts w (.slice A n cap) l→Calls Tryz.prog 11 #[.slice A n cap,.agg #[.string x1,.string x2,.string x3,.string x4]] w fun e w'=>e=.returned (.bool true)∧Below w.heap.size w w')
  (hw : ∀ W : World,Calls Tryz.prog 31 #[.slice (some ⟨W.heap.size,0,none⟩) 1 1] (W.alloc (.cells #[.string v1,.string v2,.string v3] 26)) fun e w'=>e=.returned (.bool true)∧Below (W.alloc (.cells #[.string v1,.string v2,.string v3] 26)).heap.size (W.alloc (.cells #[.string v1,.string v2,.string v3] 26)) w')
  (hva : ∀ w,Bw w→Calls Tryz.prog 32 #[.agg #[.string v1,.string v2,.string v3]] w fun e w'=>e=.returned (.bool false)∧Below w.heap.size w w') :
  Calls Tryz.prog 7 #[.slice A n cap,.agg #[.string x1,.string x2,.string x3,.string x4],.agg #[.string v1,.string v2,.string v3]] w fun e w'=>e=.returned (.bool true)∧Below w.heap.size w w':=by
 have HV:=Lib.hid hv
 clear hv
 have H0:=Lib.hid (fun w hB=>awake13_walk w hB)
 have HF:=Lib.hid hf
 clear hf
 have HW:=Lib.hid hw
 clear hw
 have HVA:=Lib.hid hva
 clear hva
 go_enter Tryz.func7,Tryz.ntmps7
 go_wp2_with fail
 refine (H0.out _ (hB.below bel)).mono ?_
 rintro e w1 ⟨rfl,g1⟩
 have HP:=Lib.hid (show Bk w1 w.heap.size [.string x1,.string x2,.string x3,.string x4] from Bk.below bkk g1)
 have HD:=Lib.hid (show Bk w1 (w.heap.size+1) [.string v1,.string v2,.string v3] from Bk.below bkk g1)
 have S1:=bn (w:=w) bel g1
 replace HV:=Lib.hid (HV.out.below S1)
 have B1:=S1
 clear S1 g1
 obtain ⟨p0,p1,p2,p3, -⟩:=HP.out.c4
 have hpl:=HP.out.lt
 go_wp2_with fail
 refine (HF.out _ (HV.out.below bel)).mono ?_
 rintro e w2 ⟨rfl,g2⟩
 clear p0 p1 p2 p3 hpl
 have S2 : Below w1.heap.size w1 w2:=bn bel g2
 clear g2
 replace HV:=Lib.hid (HV.out.below S2)
 replace HP:=Lib.hid (HP.out.below S2)
 replace HD:=Lib.hid (HD.out.below S2)
 have B2 : Below w.heap.size w w2:=bn B1 S2
 clear S2
 obtain ⟨d0,d1,d2, -⟩:=HD.out.c3
 have hdl:=HD.out.lt
 go_wp2_with fail
 refine (HW.out _).mono ?_
 rintro e w3 ⟨rfl,g3⟩
 clear d0 d1 d2 hdl
 have S3 : Below w2.heap.size w2 w3:=bn bel g3
 clear g3
 replace HV:=Lib.hid (HV.out.below S3)
 replace HP:=Lib.hid (HP.out.below S3)
 replace HD:=Lib.hid (HD.out.below S3)
 have B3 : Below w.heap.size w w3:=bn B2 S3
 clear S3
 obtain ⟨d0,d1,d2, -⟩:=HD.out.c3
 have hdl:=HD.out.lt
 go_wp2_with fail
 refine (HVA.out _ (hB.below bel)).mono ?_
 rintro e w4 ⟨rfl,g4⟩
 clear d0 d1 d2 hdl
 have S4 : Below w3.heap.size w3 w4:=bn bel g4
 clear g4
 replace HV:=Lib.hid (HV.out.below S4)
 replace HP:=Lib.hid (HP.out.below S4)
 replace HD:=Lib.hid (HD.out.below S4)
 have B4 : Below w.heap.size w w4:=bn B3 S4
 clear S4
 go_wp2_with fail
 refine (H0.out _ (hB.below bel)).mono ?_
 rintro e w5 ⟨rfl,g5⟩
 have S5 : Below w4.heap.size w4 w5:=bn bel g5
 clear g5
 replace HV:=Lib.hid (HV.out.below S5)
 replace HP:=Lib.hid (HP.out.below S5)
 replace HD:=Lib.hid (HD.out.below S5)
 have B5 : Below w.heap.size w w5:=bn B4 S5
 clear S5
 go_wp2
 go_ret
 exact ⟨rfl,bel⟩
set_option maxHeartbeats 4000000 in
set_option maxRecDepth 100000 in
theorem moves_bad (A : Option Addr) (n cap : Nat) (l : List TV) (x1 x2 x3 x4 v1 v2 v3 : ByteArray) (w : World) (hB : Bw w) (hv : Ts w (.slice A n cap) l)
  (z : Int) (hz : (z != 0)=true)
  (hn24 : (n : Int)≤24)
  (hf : ∀ w,Ts w (.slice A n cap) l→Calls Tryz.prog 11 #[.slice A n cap,.agg #[.string x1,.string x2,.string x3,.string x4]] w fun e w'=>e=.returned (.bool true)∧Below w.heap.size w w')
  (hw : ∀ W : World,Calls Tryz.prog 31 #[.slice (some ⟨W.heap.size,0,none⟩) 1 1] (W.alloc (.cells #[.string v1,.string v2,.string v3] 26)) fun e w'=>e=.returned (.bool true)∧Below (W.alloc (.cells #[.string v1,.string v2,.string v3] 26)).heap.size (W.alloc (.cells #[.string v1,.string v2,.string v3] 26)) w')
  (hva : ∀ w,Bw w→Calls Tryz.prog 32 #[.agg #[.string v1,.string v2,.string v3]] w fun e w'=>e=.returned (.bool true)∧Below w.heap.size w w')
  (hcl : ∀ A cap w,Ts w (.slice A n cap) l→Calls Tryz.prog 13 #[.slice A n cap] w (Ret fun r w'=>(∃ A c,r=.slice A n c∧Ts w' (.slice A n c) l)∧Below w.heap.size w w'))
  (h1 : ∀ A cap w,Bw w→Ts w (.slice A n cap) l→Calls Tryz.prog 12 #[.slice A n cap,.agg #[.string x1,.string x2,.string x3,.string x4]] w fun e w'=>e=.returned (.tuple #[.slice none 0 0,.int .i64 z])∧Below w.heap.size w w') :
  Calls Tryz.prog 7 #[.slice A n cap,.agg #[.string x1,.string x2,.string x3,.string x4],.agg #[.string v1,.string v2,.string v3]] w fun e w'=>e=.returned (.bool true)∧Below w.heap.size w w':=by
 have HV:=Lib.hid hv
 clear hv
 have H0:=Lib.hid (fun w hB=>awake13_walk w hB)
 have HF:=Lib.hid hf
 clear hf
 have HW:=Lib.hid hw
 clear hw
 have HVA:=Lib.hid hva
 clear hva
 have HCL:=Lib.hid hcl
 clear hcl
 have H1:=Lib.hid h1
 clear h1
 go_enter Tryz.func7,Tryz.ntmps7
 go_wp2_with fail
 refine (H0.out _ (hB.below bel)).mono ?_
 rintro e w1 ⟨rfl,g1⟩
 have HP:=Lib.hid (show Bk w1 w.heap.size [.string x1,.string x2,.string x3,.string x4] from Bk.below bkk g1)
 have HD:=Lib.hid (show Bk w1 (w.heap.size+1) [.string v1,.string v2,.string v3] from Bk.below bkk g1)
 have S1:=bn (w:=w) bel g1
 replace HV:=Lib.hid (HV.out.below S1)
 have B1:=S1
 clear S1 g1
 obtain ⟨p0,p1,p2,p3, -⟩:=HP.out.c4
 have hpl:=HP.out.lt
 go_wp2_with fail
 refine (HF.out _ (HV.out.below bel)).mono ?_
 rintro e w2 ⟨rfl,g2⟩
 clear p0 p1 p2 p3 hpl
 have S2 : Below w1.heap.size w1 w2:=bn bel g2
 clear g2
 replace HV:=Lib.hid (HV.out.below S2)
 replace HP:=Lib.hid (HP.out.below S2)
 replace HD:=Lib.hid (HD.out.below S2)
 have B2 : Below w.heap.size w w2:=bn B1 S2
 clear S2
 obtain ⟨d0,d1,d2, -⟩:=HD.out.c3
 have hdl:=HD.out.lt
 go_wp2_with fail
 refine (HW.out _).mono ?_
 rintro e w3 ⟨rfl,g3⟩
 clear d0 d1 d2 hdl
 have S3 : Below w2.heap.size w2 w3:=bn bel g3
 clear g3
 replace HV:=Lib.hid (HV.out.below S3)
 replace HP:=Lib.hid (HP.out.below S3)
 replace HD:=Lib.hid (HD.out.below S3)
 have B3 : Below w.heap.size w w3:=bn B2 S3
 clear S3
 obtain ⟨d0,d1,d2, -⟩:=HD.out.c3
 have hdl:=HD.out.lt
 go_wp2_with fail
 refine (HVA.out _ (hB.below bel)).mono ?_
 rintro e w4 ⟨rfl,g4⟩
 clear d0 d1 d2 hdl
 have S4 : Below w3.heap.size w3 w4:=bn bel g4
 clear g4
 replace HV:=Lib.hid (HV.out.below S4)
 replace HP:=Lib.hid (HP.out.below S4)
 replace HD:=Lib.hid (HD.out.below S4)
 have B4 : Below w.heap.size w w4:=bn B3 S4
 clear S4
 go_wp2
 obtain ⟨p0,p1,p2,p3, -⟩:=HP.out.c4
 have hpl:=HP.out.lt
 go_region_held3 (fun w'=>w'.cell? ⟨w.heap.size,0,none⟩=some (.string x1)∧w'.cell? ⟨w.heap.size,1,none⟩=some (.string x2)∧w'.cell? ⟨w.heap.size,2,none⟩=some (.string x3)∧w'.cell? ⟨w.heap.size,3,none⟩=some (.string x4)∧Below w4.heap.size w4 w')
  ((refine (fun hb=>⟨bc hb p0,bc hb p1,bc hb p2,bc hb p3,hb⟩) ?_; go_split_ands; repeat (first | with_reducible assumption | (with_reducible exact bd (br _)) | (with_reducible exact br _) | (with_reducible refine bn ?_ g) | (with_reducible refine ba ?_) | (with_reducible refine bd ?_))))
  (first
   | (go_at_call 13; refine (HCL.out _ _ _ (HV.out.below (by go_split_ands; assumption))).mono ?_; rintro e wx1 ⟨_,rfl,⟨A4,c4,rfl,q3⟩,g⟩; have X1 : Below w4.heap.size w4 wx1:=bn (by go_split_ands; assumption) g; have V3:=Lib.hid q3; clear q3)
   | (go_at_call 12; have X1x:=X1; refine (H1.out _ _ _ (hB.below (bn B4 (by go_split_ands; assumption))) (V3.out.below (by repeat (first | with_reducible exact br _ | with_reducible assumption | with_reducible refine ba ?_ | with_reducible refine bd ?_ | (refine below_drewN ?_ _))))).mono ?_; rintro e w5 ⟨rfl,g⟩; have S5 : Below w4.heap.size w4 w5:=bn (by go_split_ands; assumption) g))
 clear V3
 clear p0 p1 p2 p3 hpl
 replace HV:=Lib.hid (HV.out.below S5)
 replace HP:=Lib.hid (HP.out.below S5)
 replace HD:=Lib.hid (HD.out.below S5)
 have B5 : Below w.heap.size w w5:=bn B4 S5
 clear S5
 go_wp2
 go_ret
 exact ⟨rfl,bel⟩
set_option maxHeartbeats 4000000 in
set_option maxRecDepth 100000 in
theorem moves_at (A : Option Addr) (n cap : Nat) (l : List TV) (x1 x2 x3 x4 v1 v2 v3 : ByteArray) (w : World) (hB : Bw w) (hv : Ts w (.slice A n cap) l)
  (D M DM : List TV) (k c2 c3 n1 n2 n3 : ByteArray)
  (hn24 : (n : Int)≤24)
  (hf : ∀ w,Ts w (.slice A n cap) l→Calls Tryz.prog 11 #[.slice A n cap,.agg #[.string x1,.string x2,.string x3,.string x4]] w fun e w'=>e=.returned (.bool true)∧Below w.heap.size w w')
  (hw : ∀ W : World,Calls Tryz.prog 31 #[.slice (some ⟨W.heap.size,0,none⟩) 1 1] (W.alloc (.cells #[.string v1,.string v2,.string v3] 26)) fun e w'=>e=.returned (.bool true)∧Below (W.alloc (.cells #[.string v1,.string v2,.string v3] 26)).heap.size (W.alloc (.cells #[.string v1,.string v2,.string v3] 26)) w')
  (hva : ∀ w,Bw w→Calls Tryz.prog 32 #[.agg #[.string v1,.string v2,.string v3]] w fun e w'=>e=.returned (.bool true)∧Below w.heap.size w w')
  (hcl : ∀ A cap w,Ts w (.slice A n cap) l→Calls Tryz.prog 13 #[.slice A n cap] w (Ret fun r w'=>(∃ A c,r=.slice A n c∧Ts w' (.slice A n c) l)∧Below w.heap.size w w'))
  (h1 : ∀ A cap w,Bw w→Ts w (.slice A n cap) l→Calls Tryz.prog 12 #[.slice A n cap,.agg #[.string x1,.string x2,.string x3,.string x4]] w (SolR D w))
  (hm : ∀ A cap w,Bw w→Ts w (.slice A n cap) l→Calls Tryz.prog 33 #[.slice A n cap,.agg #[.string v1,.string v2,.string v3]] w (SolR M w))
  (hdt : ∀ w,Bw w→Calls Tryz.prog 34 #[.agg #[.string x1,.string x2,.string x3],.agg #[.string v1,.string v2,.string v3]] w fun e w'=>e=.returned (.tuple #[.string k,.int .i64 0])∧Below w.heap.size w w')
  (had : ∀ w,Bw w→Calls Tryz.prog 35 #[.string x4,.string k] w fun e w'=>e=.returned (.tuple #[.string c2,.int .i64 0])∧Below w.heap.size w w')
  (hb2 : ∀ v w,Bw w→Ts w v M→Calls Tryz.prog 12 #[v,.agg #[.string x1,.string x2,.string x3,.string c2]] w (SolR DM w))
  (hmd : ∀ v w,Bw w→Ts w v D→Calls Tryz.prog 33 #[v,.agg #[.string v1,.string v2,.string v3]] w (SolR DM w))
  (hsc : ∀ w,Bw w→Calls Tryz.prog 36 #[.agg #[.string x1,.string x2,.string x3],.string ⟨#[51,47,50]⟩] w fun e w'=>e=.returned (.tuple #[.agg #[.string n1,.string n2,.string n3],.int .i64 0])∧Below w.heap.size w w')
  (hml : ∀ w,Bw w→Calls Tryz.prog 37 #[.string x4,.string ⟨#[51,47,50]⟩] w fun e w'=>e=.returned (.tuple #[.string c3,.int .i64 0])∧Below w.heap.size w w')
  (hb3 : ∀ A cap w,Bw w→Ts w (.slice A n cap) l→Calls Tryz.prog 12 #[.slice A n cap,.agg #[.string n1,.string n2,.string n3,.string c3]] w (SolR D w)) :
  Calls Tryz.prog 7 #[.slice A n cap,.agg #[.string x1,.string x2,.string x3,.string x4],.agg #[.string v1,.string v2,.string v3]] w fun e w'=>e=.returned (.bool true)∧Below w.heap.size w w':=by
 have HV:=Lib.hid hv
 clear hv
 have H0:=Lib.hid (fun w hB=>awake13_walk w hB)
 have HF:=Lib.hid hf
 clear hf
 have HW:=Lib.hid hw
 clear hw
 have HVA:=Lib.hid hva
 clear hva
 have HCL:=Lib.hid hcl
 clear hcl
 have H1:=Lib.hid h1
 clear h1
 have HM:=Lib.hid hm
 clear hm
 have HDT:=Lib.hid hdt
 clear hdt
 have HAD:=Lib.hid had
 clear had
 have HB2:=Lib.hid hb2
 clear hb2
 have HMD:=Lib.hid hmd
 clear hmd
 have HSC:=Lib.hid hsc
 clear hsc
 have HML:=Lib.hid hml
 clear hml
 have HB3:=Lib.hid hb3
 clear hb3
 go_enter Tryz.func7,Tryz.ntmps7
 go_wp2_with fail
 refine (H0.out _ (hB.below bel)).mono ?_
 rintro e w1 ⟨rfl,g1⟩
 have HP:=Lib.hid (show Bk w1 w.heap.size [.string x1,.string x2,.string x3,.string x4] from Bk.below bkk g1)
 have HD:=Lib.hid (show Bk w1 (w.heap.size+1) [.string v1,.string v2,.string v3] from Bk.below bkk g1)
 have S1:=bn (w:=w) bel g1
 replace HV:=Lib.hid (HV.out.below S1)
 have B1:=S1
 clear S1 g1
 obtain ⟨p0,p1,p2,p3, -⟩:=HP.out.c4
 have hpl:=HP.out.lt
 go_wp2_with fail
 refine (HF.out _ (HV.out.below bel)).mono ?_
 rintro e w2 ⟨rfl,g2⟩
 clear p0 p1 p2 p3 hpl
 have S2 : Below w1.heap.size w1 w2:=bn bel g2
 clear g2
 replace HV:=Lib.hid (HV.out.below S2)
 replace HP:=Lib.hid (HP.out.below S2)
 replace HD:=Lib.hid (HD.out.below S2)
 have B2 : Below w.heap.size w w2:=bn B1 S2
 clear S2
 obtain ⟨d0,d1,d2, -⟩:=HD.out.c3
 have hdl:=HD.out.lt
 go_wp2_with fail
 refine (HW.out _).mono ?_
 rintro e w3 ⟨rfl,g3⟩
 clear d0 d1 d2 hdl
 have S3 : Below w2.heap.size w2 w3:=bn bel g3
 clear g3
 replace HV:=Lib.hid (HV.out.below S3)
 replace HP:=Lib.hid (HP.out.below S3)
 replace HD:=Lib.hid (HD.out.below S3)
 have B3 : Below w.heap.size w w3:=bn B2 S3
 clear S3
 obtain ⟨d0,d1,d2, -⟩:=HD.out.c3
 have hdl:=HD.out.lt
 go_wp2_with fail
 refine (HVA.out _ (hB.below bel)).mono ?_
 rintro e w4 ⟨rfl,g4⟩
 clear d0 d1 d2 hdl
 have S4 : Below w3.heap.size w3 w4:=bn bel g4
 clear g4
 replace HV:=Lib.hid (HV.out.below S4)
 replace HP:=Lib.hid (HP.out.below S4)
 replace HD:=Lib.hid (HD.out.below S4)
 have B4 : Below w.heap.size w w4:=bn B3 S4
 clear S4
 go_wp2
 obtain ⟨p0,p1,p2,p3, -⟩:=HP.out.c4
 have hpl:=HP.out.lt
 go_region_held3 (fun w'=>w'.cell? ⟨w.heap.size,0,none⟩=some (.string x1)∧w'.cell? ⟨w.heap.size,1,none⟩=some (.string x2)∧w'.cell? ⟨w.heap.size,2,none⟩=some (.string x3)∧w'.cell? ⟨w.heap.size,3,none⟩=some (.string x4)∧Below w4.heap.size w4 w')
  ((refine (fun hb=>⟨bc hb p0,bc hb p1,bc hb p2,bc hb p3,hb⟩) ?_; go_split_ands; repeat (first | with_reducible assumption | (with_reducible exact bd (br _)) | (with_reducible exact br _) | (with_reducible refine bn ?_ g) | (with_reducible refine ba ?_) | (with_reducible refine bd ?_))))
  (first
   | (go_at_call 13; refine (HCL.out _ _ _ (HV.out.below (by go_split_ands; assumption))).mono ?_; rintro e wx1 ⟨_,rfl,⟨A4,c4,rfl,q3⟩,g⟩; have X1 : Below w4.heap.size w4 wx1:=bn (by go_split_ands; assumption) g; have V3:=Lib.hid q3; clear q3)
   | (go_at_call 12; have X1x:=X1; refine (H1.out _ _ _ (hB.below (bn B4 (by go_split_ands; assumption))) (V3.out.below (by repeat (first | with_reducible exact br _ | with_reducible assumption | with_reducible refine ba ?_ | with_reducible refine bd ?_ | (refine below_drewN ?_ _))))).mono ?_; rintro e w5 ⟨AD,cD,rfl,qD,g⟩; have S5 : Below w4.heap.size w4 w5:=bn (by go_split_ands; assumption) g))
 clear V3
 clear p0 p1 p2 p3 hpl
 replace HV:=Lib.hid (HV.out.below S5)
 replace HP:=Lib.hid (HP.out.below S5)
 replace HD:=Lib.hid (HD.out.below S5)
 have B5 : Below w.heap.size w w5:=bn B4 S5
 clear S5
 have VD:=Lib.hid qD
 clear qD
 go_wp2
 obtain ⟨p0,p1,p2,p3, -⟩:=HP.out.c4
 have hpl:=HP.out.lt
 obtain ⟨d0,d1,d2, -⟩:=HD.out.c3
 have hdl:=HD.out.lt
 skip
 skip
 go_region_held3 (fun w'=>w'.cell? ⟨w.heap.size,0,none⟩=some (.string x1)∧w'.cell? ⟨w.heap.size,1,none⟩=some (.string x2)∧w'.cell? ⟨w.heap.size,2,none⟩=some (.string x3)∧w'.cell? ⟨w.heap.size,3,none⟩=some (.string x4)∧w'.cell? ⟨w.heap.size+1,0,none⟩=some (.string v1)∧w'.cell? ⟨w.heap.size+1,1,none⟩=some (.string v2)∧w'.cell? ⟨w.heap.size+1,2,none⟩=some (.string v3)∧Below w5.heap.size w5 w')
  ((refine (fun hb=>⟨bc hb p0,bc hb p1,bc hb p2,bc hb p3,bc hb d0,bc hb d1,bc hb d2,hb⟩) ?_; go_split_ands; repeat (first | with_reducible assumption | (with_reducible exact bd (br _)) | (with_reducible exact br _) | (with_reducible refine bn ?_ g) | (with_reducible refine ba ?_) | (with_reducible refine bd ?_))))
  (first
   | (go_at_call 13; refine (HCL.out _ _ _ (HV.out.below (by go_split_ands; assumption))).mono ?_; rintro e wx1 ⟨_,rfl,⟨A4,c4,rfl,q3⟩,g⟩; have X1 : Below w5.heap.size w5 wx1:=bn (by go_split_ands; assumption) g; have V3:=Lib.hid q3; clear q3)
   | (go_at_call 33; have X1x:=X1; refine (HM.out _ _ _ (hB.below (bn B5 (by go_split_ands; assumption))) (V3.out.below (by repeat (first | with_reducible exact br _ | with_reducible assumption | with_reducible refine ba ?_ | with_reducible refine bd ?_ | (refine below_drewN ?_ _))))).mono ?_; rintro e w6 ⟨AM,cM,rfl,qM,g⟩; have S6 : Below w5.heap.size w5 w6:=bn (by go_split_ands; assumption) g))
 clear V3
 clear d0 d1 d2 hdl
 skip
 skip
 clear p0 p1 p2 p3 hpl
 replace HV:=Lib.hid (HV.out.below S6)
 replace HP:=Lib.hid (HP.out.below S6)
 replace HD:=Lib.hid (HD.out.below S6)
 replace VD:=Lib.hid (VD.out.below S6)
 have B6 : Below w.heap.size w w6:=bn B5 S6
 clear S6
 have VM:=Lib.hid qM
 clear qM
 obtain ⟨p0,p1,p2,p3, -⟩:=HP.out.c4
 have hpl:=HP.out.lt
 obtain ⟨d0,d1,d2, -⟩:=HD.out.c3
 have hdl:=HD.out.lt
 go_wp2_with fail
 refine (HDT.out _ (hB.below bel)).mono ?_
 rintro e w7 ⟨rfl,g7⟩
 clear p0 p1 p2 p3 hpl d0 d1 d2 hdl
 have S7 : Below w6.heap.size w6 w7:=bn bel g7
 clear g7
 replace HV:=Lib.hid (HV.out.below S7)
 replace HP:=Lib.hid (HP.out.below S7)
 replace HD:=Lib.hid (HD.out.below S7)
 replace VD:=Lib.hid (VD.out.below S7)
 replace VM:=Lib.hid (VM.out.below S7)
 have B7 : Below w.heap.size w w7:=bn B6 S7
 clear S7
 obtain ⟨p0,p1,p2,p3, -⟩:=HP.out.c4
 have hpl:=HP.out.lt
 go_wp2_with fail
 refine (HAD.out _ (hB.below bel)).mono ?_
 rintro e w8 ⟨rfl,g8⟩
 clear p0 p1 p2 p3 hpl
 have S8 : Below w7.heap.size w7 w8:=bn bel g8
 clear g8
 replace HV:=Lib.hid (HV.out.below S8)
 replace HP:=Lib.hid (HP.out.below S8)
 replace HD:=Lib.hid (HD.out.below S8)
 replace VD:=Lib.hid (VD.out.below S8)
 replace VM:=Lib.hid (VM.out.below S8)
 have B8 : Below w.heap.size w w8:=bn B7 S8
 clear S8
 obtain ⟨p0,p1,p2,p3, -⟩:=HP.out.c4
 have hpl:=HP.out.lt
 go_wp2_with fail
 refine (HB2.out _ _ (hB.below bel) (VM.out.below bel)).mono ?_
 rintro e w9 ⟨AC,cC,rfl,qC,g9⟩
 have VC:=Lib.hid qC
 clear qC p0 p1 p2 p3 hpl
 have S9 : Below w8.heap.size w8 w9:=bn bel g9
 clear g9
 replace HV:=Lib.hid (HV.out.below S9)
 replace HP:=Lib.hid (HP.out.below S9)
 replace HD:=Lib.hid (HD.out.below S9)
 replace VD:=Lib.hid (VD.out.below S9)
 replace VM:=Lib.hid (VM.out.below S9)
 have B9 : Below w.heap.size w w9:=bn B8 S9
 clear S9
 clear VM
 obtain ⟨d0,d1,d2, -⟩:=HD.out.c3
 have hdl:=HD.out.lt
 go_wp2_with fail
 refine (HMD.out _ _ (hB.below bel) (VD.out.below bel)).mono ?_
 rintro e w10 ⟨AE,cE,rfl,qE,g10⟩
 have VE:=Lib.hid qE
 clear qE d0 d1 d2 hdl
 have S10 : Below w9.heap.size w9 w10:=bn bel g10
 clear g10
 replace HV:=Lib.hid (HV.out.below S10)
 replace HP:=Lib.hid (HP.out.below S10)
 replace HD:=Lib.hid (HD.out.below S10)
 replace VD:=Lib.hid (VD.out.below S10)
 replace VC:=Lib.hid (VC.out.below S10)
 have B10 : Below w.heap.size w w10:=bn B9 S10
 clear S10
 obtain ⟨p0,p1,p2,p3, -⟩:=HP.out.c4
 have hpl:=HP.out.lt
 go_wp2_with fail
 refine (HSC.out _ (hB.below bel)).mono ?_
 rintro e w11 ⟨rfl,g11⟩
 clear p0 p1 p2 p3 hpl
 have S11 : Below w10.heap.size w10 w11:=bn bel g11
 clear g11
 replace HV:=Lib.hid (HV.out.below S11)
 replace HP:=Lib.hid (HP.out.below S11)
 replace HD:=Lib.hid (HD.out.below S11)
 replace VD:=Lib.hid (VD.out.below S11)
 replace VC:=Lib.hid (VC.out.below S11)
 replace VE:=Lib.hid (VE.out.below S11)
 have B11 : Below w.heap.size w w11:=bn B10 S11
 clear S11
 obtain ⟨p0,p1,p2,p3, -⟩:=HP.out.c4
 have hpl:=HP.out.lt
 go_wp2_with fail
 refine (HML.out _ (hB.below bel)).mono ?_
 rintro e w12 ⟨rfl,g12⟩
 have HI:=Lib.hid (show Bk w12 w11.heap.size [.string n1,.string n2,.string n3] from Bk.below bkk g12)
 clear p0 p1 p2 p3 hpl
 have S12 : Below w11.heap.size w11 w12:=bn bel g12
 clear g12
 replace HV:=Lib.hid (HV.out.below S12)
 replace HP:=Lib.hid (HP.out.below S12)
 replace HD:=Lib.hid (HD.out.below S12)
 replace VD:=Lib.hid (VD.out.below S12)
 replace VC:=Lib.hid (VC.out.below S12)
 replace VE:=Lib.hid (VE.out.below S12)
 have B12 : Below w.heap.size w w12:=bn B11 S12
 clear S12
 go_wp2
 obtain ⟨p0,p1,p2,p3, -⟩:=HP.out.c4
 have hpl:=HP.out.lt
 obtain ⟨i0,i1,i2, -⟩:=HI.out.c3
 have hil:=HI.out.lt
 skip
 skip
 go_region_held3 (fun w'=>w'.cell? ⟨w.heap.size,0,none⟩=some (.string x1)∧w'.cell? ⟨w.heap.size,1,none⟩=some (.string x2)∧w'.cell? ⟨w.heap.size,2,none⟩=some (.string x3)∧w'.cell? ⟨w.heap.size,3,none⟩=some (.string x4)∧w'.cell? ⟨w11.heap.size,0,none⟩=some (.string n1)∧w'.cell? ⟨w11.heap.size,1,none⟩=some (.string n2)∧w'.cell? ⟨w11.heap.size,2,none⟩=some (.string n3)∧Below w12.heap.size w12 w')
  ((refine (fun hb=>⟨bc hb p0,bc hb p1,bc hb p2,bc hb p3,bc hb i0,bc hb i1,bc hb i2,hb⟩) ?_; go_split_ands; repeat (first | with_reducible assumption | (with_reducible exact bd (br _)) | (with_reducible exact br _) | (with_reducible refine bn ?_ g) | (with_reducible refine ba ?_) | (with_reducible refine bd ?_))))
  (first
   | (go_at_call 13; refine (HCL.out _ _ _ (HV.out.below (by go_split_ands; assumption))).mono ?_; rintro e wx1 ⟨_,rfl,⟨A4,c4,rfl,q3⟩,g⟩; have X1 : Below w12.heap.size w12 wx1:=bn (by go_split_ands; assumption) g; have V3:=Lib.hid q3; clear q3)
   | (go_at_call 12; have X1x:=X1; refine (HB3.out _ _ _ (hB.below (bn B12 (by go_split_ands; assumption))) (V3.out.below (by repeat (first | with_reducible exact br _ | with_reducible assumption | with_reducible refine ba ?_ | with_reducible refine bd ?_ | (refine below_drewN ?_ _))))).mono ?_; rintro e w13 ⟨AO,cO,rfl,qO,g⟩; have S13 : Below w12.heap.size w12 w13:=bn (by go_split_ands; assumption) g))
 clear V3
 clear i0 i1 i2 hil
 skip
 skip
 clear p0 p1 p2 p3 hpl
 replace HV:=Lib.hid (HV.out.below S13)
 replace HP:=Lib.hid (HP.out.below S13)
 replace HD:=Lib.hid (HD.out.below S13)
 replace VD:=Lib.hid (VD.out.below S13)
 replace VC:=Lib.hid (VC.out.below S13)
 replace VE:=Lib.hid (VE.out.below S13)
 replace HI:=Lib.hid (HI.out.below S13)
 have B13 : Below w.heap.size w w13:=bn B12 S13
 clear S13
 have VO:=Lib.hid qO
 clear qO
 clear HI
 go_wp2_with fail
 refine (refSame_walk _ _ DM _ (VC.out.below bel) (VE.out.below bel)).mono ?_
 rintro e w14 ⟨rfl,g14⟩
 have S14 : Below w13.heap.size w13 w14:=bn bel g14
 clear g14
 replace HV:=Lib.hid (HV.out.below S14)
 replace HP:=Lib.hid (HP.out.below S14)
 replace HD:=Lib.hid (HD.out.below S14)
 replace VD:=Lib.hid (VD.out.below S14)
 replace VC:=Lib.hid (VC.out.below S14)
 replace VE:=Lib.hid (VE.out.below S14)
 replace VO:=Lib.hid (VO.out.below S14)
 have B14 : Below w.heap.size w w14:=bn B13 S14
 clear S14
 clear VC VE
 go_wp2_with fail
 refine (refSame_walk _ _ D _ (VO.out.below bel) (VD.out.below bel)).mono ?_
 rintro e w15 ⟨rfl,g15⟩
 have S15 : Below w14.heap.size w14 w15:=bn bel g15
 clear g15
 replace HV:=Lib.hid (HV.out.below S15)
 replace HP:=Lib.hid (HP.out.below S15)
 replace HD:=Lib.hid (HD.out.below S15)
 replace VD:=Lib.hid (VD.out.below S15)
 replace VO:=Lib.hid (VO.out.below S15)
 have B15 : Below w.heap.size w w15:=bn B14 S15
 clear S15
 clear VO VD
 go_wp2
 go_ret
 exact ⟨rfl,bel⟩
end Go.Proofs.YtopfedbhkfdjkaaGreatDoor

/- rows: planes, numbers and rows of numbers that came in, opened. -/
set_option maxRecDepth 100000
namespace Go.Proofs.YtopfedbhkfdjkaaGreatDoor
open Go Go.ChangeShapes Go.WideShapes Go.ChangeAt Go.RowKit Go.Joins Go.Deep
open Go.ChangeMaps (open_string shut_string)
section
variable {H : Type} {enc : TypeId × Value→H} {W : World} {v : Value} {d : DataW H} {p : List MemPlace}
theorem open_plane {r : Reach} {b0 : Nat} (hval : Value.okWide Tryz.prog W r b0 28 v) (h : DataW.Trod enc Tryz.prog W 0 (fun _=>true) true 28 v d p) :
  ∃ (s : SV) (c : ByteArray),v=.agg #[.string s.x,.string s.y,.string s.z,.string c]∧c.size≤maxLen:=by
 obtain ⟨cs,rfl,hsz⟩:=okWide_struct Tryz.underlying28 hval
 obtain ⟨fuel,hf⟩:=h
 obtain ⟨y0,y1,n,hx,hl,h0,h1⟩:=trod_struct2 Tryz.underlying28 hf
 have e4 : Tryz.prog.cellsOf 28=4:=by kernel_rfl
 have e1 : Tryz.prog.cellsOf 24=1:=by kernel_rfl
 rw [e4] at hsz
 obtain ⟨l⟩:=cs
 simp only [Value.cells] at h0 h1
 obtain ⟨s,hs⟩:=open_vec h0
 obtain ⟨c,hc, -,hm⟩:=DataW.trod_string Tryz.underlying24 h1
 match l,hsz with
 | [a0,a1,a2,a3],_ =>
  have q1 : [a0,a1,a2]=s.cells:=by rw [← hs,cells_vec]; rfl
  have q2 : [a3]=[Value.string c]:=by rw [← hc,e1]; rfl
  have q3 : s.cells=[.string s.x,.string s.y,.string s.z]:=rfl
  rw [q3] at q1
  simp only [List.cons.injEq,and_true] at q1 q2
  obtain ⟨rfl,rfl,rfl⟩:=q1
  subst q2
  exact ⟨s,c,rfl,hm⟩
end
end Go.Proofs.YtopfedbhkfdjkaaGreatDoor

/- laws of chapter 13: what Side answers at numbers. -/
namespace Go.Proofs.YtopfedbhkfdjkaaGreatDoor
open Go Go.RowKit
end Go.Proofs.YtopfedbhkfdjkaaGreatDoor

/- law of chapter 13: ClipAgain: whatever the input is, it returns true; the row and the card. -/
namespace Go.Proofs.YtopfedbhkfdjkaaGreatDoor
open Go Go.ChangeShapes Go.WideShapes Go.ChangeAt Go.RowKit Go.Joins
open Go.ChangeMaps (open_string shut_string)
/-! ### The row -/
end Go.Proofs.YtopfedbhkfdjkaaGreatDoor

/- law of chapter 13: ClipMoves: whatever the input is, it returns true; the row and the card. -/
namespace Go.Proofs.YtopfedbhkfdjkaaGreatDoor
open Go Go.ChangeShapes Go.WideShapes Go.ChangeAt Go.RowKit Go.Joins
open Go.ChangeMaps (open_string shut_string)
theorem few_one (d : SV) (W : World) : Calls Tryz.prog 31 #[.slice (some ⟨W.heap.size, 0, none⟩) 1 1] (W.alloc (.cells #[.string d.x, .string d.y, .string d.z] 26)) fun e w' => e = .returned (.bool (isFew d)) ∧ Below (W.alloc (.cells #[.string d.x, .string d.y, .string d.z] 26)).heap.size (W.alloc (.cells #[.string d.x, .string d.y, .string d.z] 26)) w' := by
 have := Few_walk (.slice (some ⟨W.heap.size, 0, none⟩) 1 1) [d] (W.alloc (.cells #[.string d.x, .string d.y, .string d.z] 26)) (vs_lit W [d] _ 1 W.heap.size rfl rfl (by simp) rfl) (by simp)
 simpa using this
theorem rtx_long : rtx (3/2) = ⟨#[51, 47, 50]⟩ := by decide +kernel
theorem rz_long : rz ((3 : Rat)/2) ≤ 2 := by decide +kernel
theorem smul_ne {a : V3} (h : a ≠ V3.zero) : a.smul (3/2) ≠ V3.zero := by
 intro e
 refine h ?_
 obtain ⟨x, y, z⟩ := a
 unfold V3.smul V3.zero at *
 simp only [V3.mk.injEq] at e ⊢
 obtain ⟨e1, e2, e3⟩ := e
 exact ⟨by grind, by grind, by grind⟩
theorem sol_of {L : List TV} {w : World} {e : Ending} {w' : World} (h : Ret (fun r w' => (∃ u, r = .tuple #[u, .int .i64 0] ∧ Ts w' u L) ∧ Below w.heap.size w w') e w') : SolR L w e w' := by
 obtain ⟨r, rfl, ⟨u, rfl, hu⟩, g⟩ := h
 obtain ⟨A, cap, rfl, -, -, -⟩ := hu.open
 exact ⟨A, cap, rfl, hu, g⟩
theorem leT_move {L : List (Tr V3)} {e : V3} {k m n : Nat} (h : leT L k) (he : e.le m) (hn : k + m + 1 ≤ n) : leT (L.map (movT e)) n := by
 intro t ht
 obtain ⟨u, hu, rfl⟩ := List.mem_map.1 ht
 obtain ⟨h1, h2, h3⟩ := h u hu
 exact ⟨V3.le_add h1 he hn, V3.le_add h2 he hn, V3.le_add h3 he hn⟩
theorem move_ck {L : List (Tr V3)} (e : V3) (hk : chkC (L.map txt) = 0) (hl : L.length ≤ 512) : chkC ((L.map (movT e)).map txt) = 0 :=
 chk_ok (by rw [List.length_map]; exact hl) (by
  have := openT_map (f := (V3.add · e)) (add_apart e) L
  unfold movT
  rw [this, ← open_txt]
  exact (chkC_zero hk).2.2)
theorem clipMoves_walk (v : Value) (l : List TV) (s : SV) (c : ByteArray) (hc : c.size ≤ maxLen) (d : SV) (w : World) (hB : Bw w) (hv : Ts w v l) :
  Calls Tryz.prog 7 #[v, .agg #[.string s.x, .string s.y, .string s.z, .string c], .agg #[.string d.x, .string d.y, .string d.z]] w fun e w' => e = .returned (.bool true) ∧ Below w.heap.size w w' := by
 obtain ⟨A, cap, rfl, -, -, -⟩ := hv.open
 have hfw := fun w hv => few13_walk (.slice A l.length cap) l s c hc w hv
 have hw := few_one d
 cases hf : few13 l s c with
 | false =>
  rw [hf] at hfw
  exact moves_out A l.length cap l _ _ _ _ _ _ _ w hB hv hfw
 | true =>
  rw [hf] at hfw
  cases hfd : isFew d with
  | false =>
   rw [hfd] at hw
   exact moves_out2 A l.length cap l _ _ _ _ _ _ _ w hB hv hfw hw
  | true =>
   rw [hfd] at hw
   by_cases hn : 24 < l.length
   ·exact moves_many A l.length cap l _ _ _ _ _ _ _ w hB hv (by omega) hfw hw
   have hn24 : (l.length : Int) ≤ 24 := by omega
   have hva : ∀ w, Bw w → _ := fun w hB => vValid_walk d (few_sv hfd) w hB
   unfold SV.val at hva
   cases hvd : isVec d with
   | false =>
    rw [hvd] at hva
    exact moves_badv A l.length cap l _ _ _ _ _ _ _ w hB hv hn24 hfw hw hva
   | true =>
    rw [hvd] at hva
    obtain ⟨e, rfl⟩ := isVec_iff.1 hvd
    have he := few_le hfd
    have hcl := clone13 l (few13_len hf)
    rcases in13 hf with ⟨L, p, rfl, rfl, rfl, h0, hp, hL, hk, hl⟩ | hz
    ·have hp5 : p.le 100000 := ⟨hp.1.mono (by omega), by have := hp.2; omega⟩
     have hL5 : leT L 100000 := leT_mono hL (by omega)
     obtain ⟨q1, q2, q3, q4, q5⟩ := parts_le (n := 100000) hp hL (by omega)
     obtain ⟨n1, n2⟩ := parts_len p L
     have hdot := rz_dot hp.1 he (n := 200) (by omega)
     have m1 := under_move p e L
     have m2 := under_long p (k := 3/2) (by grind) L
     have hpm : (p.move e).le 100000 := ⟨hp.1.mono (by omega), by
      have := rz_add p.c (p.n.dot e)
      have := hp.2
      show rz (p.c + p.n.dot e) ≤ 100000
      omega⟩
     have hpl : (p.long (3/2)).le 100000 := ⟨V3.le_smul (hp.1) rz_long (by omega), by
      have := rz_mul p.c (3/2)
      have := hp.2
      have := rz_long
      show rz (p.c * (3/2)) ≤ 100000
      omega⟩
     refine moves_at A _ cap _ _ _ _ _ _ _ _ w hB hv ((underL p L).map txt) ((L.map (movT e)).map txt) (((underL p L).map (movT e)).map txt) (rtx (p.n.dot e)) (rtx (p.c + p.n.dot e)) (rtx (p.c * (3/2))) _ _ _ hn24 hfw hw hva hcl
      (fun A cap w hB hv => cBelow13 h0 hp5 hL5 hk _ w hB hv (by omega))
      (fun A cap w hB hv => (mMove_ok _ L e w hB hv (leT_mono hL (by omega)) (he.mono (by omega)) hk).mono fun _ _ h => sol_of h)
      (fun w hB => vDot_walk p.n e (hp.1.mono (by omega)) (he.mono (by omega)) w hB)
      (fun w hB => rAdd_walk p.c _ (by have := hp.2; omega) (by omega) w hB) ?_
      (fun v w hB hv => (mMove_ok v (underL p L) e w hB hv (leT_mono q4 (by omega)) (he.mono (by omega)) (under_ck hk (by omega))).mono fun _ _ h => sol_of h)
      (fun w hB => by
       have := vecScale_walk p.n (3/2) (hp.1.mono (by omega)) (by have := rz_long; omega) w hB
       rw [rtx_long] at this
       exact this)
      (fun w hB => by
       have := rMul_walk p.c (3/2) (by have := hp.2; omega) (by have := rz_long; omega) w hB
       rwa [rtx_long] at this) ?_
     ·intro v w hB hv
      have := cBelow13 (p := p.move e) (L := L.map (movT e)) h0 hpm (leT_move hL he (by omega)) (move_ck e hk (by omega)) v w hB hv (by rw [m1, List.length_map]; omega)
      rwa [m1] at this
     ·intro A cap w hB hv
      have := cBelow13 (p := p.long (3/2)) (L := L) (smul_ne h0) hpl hL5 hk _ w hB hv (by rw [m2]; omega)
      rwa [m2] at this
    ·obtain ⟨b1, b2, b3⟩ := bad13 hf hz
     exact moves_bad A _ cap l _ _ _ _ _ _ _ w hB hv (chkS l s c) (by simpa using hz) hn24 hfw hw hva hcl (fun A cap w hB hv => b1 _ w hB hv)
/-! ### The row -/
set_option maxRecDepth 100000 in
theorem moves13_contract (H : Type) (enc : TypeId × Value → H) (W : World) (base : Nat) (args : Array Value) (ds gs : List (DataW H)) (before : List MemPlace)
  (hval : ∀ (j : Nat) t v, Tryz.f7.params[j]? = some t → args[j]? = some v → Value.okWide Tryz.prog W .any base t v)
  (hW : DataW.Whole enc Tryz.prog Tryz.f7.params.toList Rows.clipMovesSpec.vars false W args.toList ds gs before) (hL : laidMetH Tryz.prog Rows.clipMovesRow.laid W) (hS : W.ShapedOpen Tryz.prog) :
  Calls Tryz.prog 7 args W fun e W' => ∃ v, e = .returned v ∧ Rows.clipMovesSpec.post enc Tryz.prog Tryz.f7 false true false false W args v W' := by
 have hW' := hW
 obtain ⟨p, q, hA0, hV, rfl, hfz, hnd⟩ := hW
 have hA : DataW.TrodAll enc Tryz.prog W 0 (fun _ => true) true Tryz.f7.params.toList args.toList ds p := hA0
 rw [Tryz.params7] at hA hval
 clear hA0
 obtain ⟨v0, a0, d0, e0, p0, q0, g0, rfl, rfl, h0, hA0⟩ := trodAll_cons hA
 obtain ⟨v1, a1, d1, e1, p1, q1, rfl, rfl, rfl, h1, hA1⟩ := trodAll_cons hA0
 obtain ⟨v2, a2, d2, e2, p2, q2, rfl, rfl, rfl, h2, hA2⟩ := trodAll_cons hA1
 obtain ⟨rfl, rfl, rfl⟩ := trodAll_nil hA2
 obtain ⟨al⟩ := args
 change al = _ at g0
 subst g0
 obtain ⟨rfl, rfl⟩ := trodVars_none hV
 obtain ⟨l0, hl0⟩ := open_solid (hval 0 23 v0 rfl rfl) h0
 obtain ⟨s1, c1, rfl, x1⟩ := open_plane (hval 1 28 v1 rfl rfl) h1
 have h2k := h2
 obtain ⟨b20, b21, b22, z20, z21, z22, k2, rfl, rfl, rfl, hz20, hz21, hz22⟩ := open_agg3 Tryz.underlying26 (by kernel_rfl) (by kernel_rfl) (hval 2 26 v2 rfl rfl) h2
 obtain ⟨r20, f20, rfl, x20⟩ := DataW.trod_string Tryz.underlying24 hz20
 obtain ⟨r21, f21, rfl, x21⟩ := DataW.trod_string Tryz.underlying24 hz21
 obtain ⟨r22, f22, rfl, x22⟩ := DataW.trod_string Tryz.underlying24 hz22
 simp at f20 f21 f22
 subst f20 f21 f22
 have hlt0 : ∀ x ∈ p0, x.block < W.heap.size := fun x hx => hW'.lt x (by simp [hx])
 have hlt1 : ∀ x ∈ p1, x.block < W.heap.size := fun x hx => hW'.lt x (by simp [hx])
 refine (clipMoves_walk v0 l0 s1 c1 x1 ⟨r20, r21, r22⟩ W (bw_of hL hS) hl0).mono fun e W' ⟨he, hg⟩ => ?_
 subst he
 refine ⟨_, rfl, _, _, _, [], (p0 ++ (p1 ++ ([] ++ []))), [], hW', ?_, ?_, rfl, hg.frame _, fun h => by cases h⟩
 ·exact trodAll_cons_mk (shut_bool Tryz.underlying4 _) trodAll_mk0
 ·exact (trodAll_cons_mk (Below.trod laidOut (by kernel_rfl) (of_decide_eq_true (by kernel_rfl)) h0 hg hlt0) (trodAll_cons_mk (Below.trod laidOut (by kernel_rfl) (of_decide_eq_true (by kernel_rfl)) h1 hg hlt1) (trodAll_cons_mk (vec_reads W' _ _ _ r20 r21 r22 x20 x21 x22) trodAll_mk0)))
theorem moves13_laid (os : Os) : laidMet Tryz.prog Rows.clipMovesRow.laid ((laidWorld os).forCall (fun _ _ => 0) ⟨#[], #[noSol, .agg #[.string ⟨#[]⟩, .string ⟨#[]⟩, .string ⟨#[]⟩, .string ⟨#[]⟩], noVec], []⟩).memory :=
 laidMet_of_run' 8 (by kernel_rfl) (by kernel_rfl)
theorem moves13_reads (os : Os) {H : Type} (enc : TypeId × Value → H) : ∃ places, DataW.whole enc Tryz.prog ((laidWorld os).forCall (fun _ _ => 0) ⟨#[], #[noSol, .agg #[.string ⟨#[]⟩, .string ⟨#[]⟩, .string ⟨#[]⟩, .string ⟨#[]⟩], noVec], []⟩).memory Tryz.f7.params.toList Rows.clipMovesSpec.vars false (#[noSol, .agg #[.string ⟨#[]⟩, .string ⟨#[]⟩, .string ⟨#[]⟩, .string ⟨#[]⟩], noVec] : Array Value).toList 8 = some ([.nil, .agg [.agg [.lit (.string []), .lit (.string []), .lit (.string [])], .lit (.string [])], .agg [.lit (.string []), .lit (.string []), .lit (.string [])]], [], places) :=
 ⟨[], by kernel_rfl⟩
set_option maxRecDepth 100000 in
theorem moves13_lifted (os : Os) (started : os.Started) (H : Type) (enc : TypeId × Value → H) (F : Stop.Interp) :
  ReturnsInHanded {} Tryz.checked os 7 .any ((OpenSpec.ofChange Rows.clipMovesSpec).preRow enc Tryz.prog Tryz.f7 Rows.clipMovesRow.domain false Rows.clipMovesRow.laid) (((OpenSpec.ofChange Rows.clipMovesSpec).at F).post enc Tryz.prog Tryz.f7 false true false false) := by
 obtain ⟨places, hx⟩ := moves13_reads os enc
 refine returnsInHanded_of_row (C := Tryz.checked) (s := OpenSpec.ofChange Rows.clipMovesSpec) own started (by kernel_rfl) Tryz.func7
  (witness_row_at (enc := enc) (C := Tryz.checked) false (laidWorld os) #[noSol, .agg #[.string ⟨#[]⟩, .string ⟨#[]⟩, .string ⟨#[]⟩, .string ⟨#[]⟩], noVec] rfl (by kernel_rfl) (by kernel_rfl) (by kernel_rfl)
   (OpenSpec.preRow_of_cond 8 hx (by kernel_rfl) (fun k hk => by cases hk) (by kernel_rfl) (moves13_laid os))) ?_
 intro W base args ds gs before hval hW _ _ _ hL hS _
 exact moves13_contract H enc W base args ds gs before hval hW hL hS
theorem moves13_said : Rows.ClipMovesSaid :=
 OpenClaim.holds_of_cond 7 Tryz.f7 rfl rfl rfl rfl rfl rfl rfl ⟨rfl, rfl, rfl, rfl, rfl⟩ rfl rfl rfl rfl rfl (by kernel_rfl) Tryz.func7 (by kernel_rfl)
  (of_decide_eq_true (by kernel_rfl)) (by unfold Func.isWrapper; first | (rw [if_pos (by decide +kernel)]; kernel_rfl) | (rw [if_neg (by decide +kernel)]; exact ⟨rfl, rfl⟩))
  (fun os started H enc _ F => by rw [OpenClaim.pre_eq_preRow]; exact moves13_lifted os started H enc F)
theorem moves13_plain (f : FuncId) (fn : Func) (hf : Tryz.pinned.checked.prog.funcNamed "garboard/garboardlaw13.ClipMoves" = some f) (hfn : Tryz.pinned.checked.prog.funcs[f]? = some fn) :
  true = Tryz.pinned.checked.prog.looks [] ∧ ∀ (j : Nat) t, fn.params[j]? = some t → Tryz.pinned.checked.prog.wantsStandIn t = false := by
 obtain rfl : f = 7 := Option.some.inj ((show Tryz.prog.funcNamed "garboard/garboardlaw13.ClipMoves" = some 7 by kernel_rfl).symm.trans hf) |>.symm
 obtain rfl : fn = Tryz.f7 := (Option.some.inj (Tryz.func7.symm.trans hfn)).symm
 refine ⟨by kernel_rfl, fun j t ht => ?_⟩
 rw [Tryz.params7] at ht
 have : t = 23 ∨ t = 28 ∨ t = 26 := by simpa using Array.mem_of_getElem? ht
 rcases this with rfl | rfl | rfl
 ·exact (show Tryz.prog.wantsStandIn 23 = false by kernel_rfl)
 ·exact (show Tryz.prog.wantsStandIn 28 = false by kernel_rfl)
 ·exact (show Tryz.prog.wantsStandIn 26 = false by kernel_rfl)
theorem clipMoves_holds : Rows.ClipMovesCardSaid :=
 Claim7.holds_tied_plain_at .later [] _ _ _ _ moves13_said (fun _ h => by cases h) (by kernel_rfl) (fun _ h => by cases h) clipMoves_row_tie rfl ⟨rfl, rfl⟩ (by kernel_rfl) rfl moves13_plain (by kernel_rfl)
#print axioms clipMoves_holds
end Go.Proofs.YtopfedbhkfdjkaaGreatDoor
