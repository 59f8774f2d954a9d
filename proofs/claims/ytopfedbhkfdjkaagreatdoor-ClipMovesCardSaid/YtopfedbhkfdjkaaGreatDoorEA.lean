
/- A box in plain Lean: closed, convex, eight points, one shell. No program in sight. -/
import Derived.Test.YtopfedbhkfdjkaaGreatDoorE9
import Derived.Test.YtopfedbhkfdjkaaGreatDoorE8
set_option linter.unusedVariables false
set_option linter.unusedSimpArgs false
namespace Go.Proofs.YtopfedbhkfdjkaaGreatDoor
open Go Go.RowKit
def boxI : List (Tr (Fin 8)):=prismL [0,1,2,3] [4,5,6,7]
theorem boxI_closed : openT boxI=false:=by decide +kernel
def bx (i : Fin 8) : Bool:=i == 1 || i == 2 || i == 5 || i == 6
def by' (i : Fin 8) : Bool:=i == 2 || i == 3 || i == 6 || i == 7
def bz (i : Fin 8) : Bool:=i == 4 || i == 5 || i == 6 || i == 7
def corner (lo hi : V3) (i : Fin 8) : V3:=⟨if bx i then hi.x else lo.x,if by' i then hi.y else lo.y,if bz i then hi.z else lo.z⟩
theorem bits_inj : ∀ i j : Fin 8,bx i=bx j→by' i=by' j→bz i=bz j→i=j:=by decide +kernel
theorem if_apart {p q : Bool} {x y : Rat} (h : x≠y) (e : (if p then y else x)=(if q then y else x)) : p=q:=by
 cases p<;>cases q
 ·rfl
 ·exact absurd e h
 ·exact absurd e.symm h
 ·rfl
theorem corner_inj {lo hi : V3} (h1 : lo.x≠hi.x) (h2 : lo.y≠hi.y) (h3 : lo.z≠hi.z) (i j : Fin 8) (h : corner lo hi i=corner lo hi j) : i=j:=by
 simp only [corner,V3.mk.injEq] at h
 obtain ⟨a,b,c⟩:=h
 exact bits_inj i j (if_apart h1 a) (if_apart h2 b) (if_apart h3 c)
def boxT (lo hi : V3) : List (Tr V3):=boxI.map (Tr.map (corner lo hi))
section
variable {lo hi : V3} (h1 : lo.x<hi.x) (h2 : lo.y<hi.y) (h3 : lo.z<hi.z)
include h1 h2 h3
theorem corner_apart (i j : Fin 8) (h : corner lo hi i=corner lo hi j) : i=j :=
 corner_inj (by grind) (by grind) (by grind) i j h
theorem boxT_closed : openT (boxT lo hi)=false:=by
 rw [boxT,openT_map (corner_apart h1 h2 h3),boxI_closed]
end
end Go.Proofs.YtopfedbhkfdjkaaGreatDoor


/- mesh: Prism. -/
namespace Go.Proofs.YtopfedbhkfdjkaaGreatDoor
open Go Go.RowKit
theorem own_base {w : World} {base base' sz n : Nat} {e : TypeId} {v : Value} {xs : List Value} (h : w.ownsRow base e sz v n xs) (hb : base'≤base) : w.ownsRow base' e sz v n xs:=by
 refine ⟨h.1, ?_⟩
 rcases h.2 with h2 | ⟨g,cap,cur,h1,h2,h3⟩
 ·exact .inl h2
 ·exact .inr ⟨g,cap,cur,h1,Nat.le_trans hb h2,h3⟩
theorem own_below {w w1 : World} {base sz n : Nat} {e : TypeId} {v : Value} {xs : List Value} (h : w.ownsRow base e sz v n xs) (hb : Below w.heap.size w w1) : w1.ownsRow base e sz v n xs :=
 World.ownsRow.kept (row:=none) h ⟨hb.os,hb.tape,hb.output,hb.size,fun k hk _=>hb.block k hk⟩ (by cases v.ownBlock<;>simp)
def tvs (ps : List V3) : List SV:=ps.map txv
theorem tvs_valid (ps : List V3) : (tvs ps).all isVec=true:=by
 unfold tvs
 rw [List.all_map,List.all_eq_true]
 intro p _
 exact isVec_txv p
theorem tvs_le {ps : List V3} {k m : Nat} (h : ∀ p ∈ ps,p.le k) (hm : 2 * k+2≤m) : ∀ s ∈ tvs ps,s.le m:=by
 intro s hs
 obtain ⟨p,hp,rfl⟩:=List.mem_map.1 hs
 have:=txv_le (h p hp)
 exact ⟨Nat.le_trans this.1 hm,Nat.le_trans this.2.1 hm,Nat.le_trans this.2.2 hm⟩
def moved (ps : List V3) (d : V3) : List V3:=ps.map (V3.add · d)
theorem tvs_length (ps : List V3) : (tvs ps).length=ps.length:=List.length_map _
theorem moved_length (ps : List V3) (d : V3) : (tvs (moved ps d)).length=ps.length:=by rw [tvs_length]; exact List.length_map _
theorem polC_tvs {ps : List V3} {z : Int} (h3 : 3≤ps.length) (h : ps.length≤256) (hz : z≤512) : polC (tvs ps) z=0:=by
 unfold polC
 rw [tvs_length,if_neg (by omega),if_neg (by omega),if_pos (tvs_valid ps)]
theorem moved_step {ps : List V3} {d : V3} {k : Nat} (hk : k<ps.length) : ∃ p ∈ ps,(tvs ps)[k]?=some (txv p)∧(tvs (moved ps d))[k]?=some (txv (p.add d))∧svs ((tvs (moved ps d)).take (k+1))=svs ((tvs (moved ps d)).take k)++[.string (rtx (p.add d).x),.string (rtx (p.add d).y),.string (rtx (p.add d).z)]:=by
 refine ⟨ps[k],List.getElem_mem hk, ?_, ?_, ?_⟩
 ·simp [tvs,hk]
 ·simp [tvs,moved,hk]
 ·have h2 : k<(tvs (moved ps d)).length:=by rw [moved_length]; exact hk
  rw [List.take_succ_eq_append_getElem h2,svs_append]
  congr 1
  simp [tvs,moved,svs,SV.cells,txv]
def prismTo (L Q : List SV) (n i : Nat) : List TV:=(fanL L).map Tr.turn++fanL Q++sides L Q n i
theorem prismTo_step {L Q : List SV} {n i : Nat} (hL : L.length=n) (hQ : Q.length=n) (hi : i<n) : ∃ a b c d,L[i]?=some a∧L[(i+1) % n]?=some b∧Q[(i+1) % n]?=some c∧Q[i]?=some d ∧
  tcs (prismTo L Q n (i+1))=tcs (prismTo L Q n i)++(TV.cells ⟨a,b,c⟩++TV.cells ⟨a,c,d⟩)∧(prismTo L Q n (i+1)).length=(prismTo L Q n i).length+2:=by
 have hm : (i+1) % n<n:=Nat.mod_lt _ (by omega)
 have h1 : L[i]?=some L[i]:=List.getElem?_eq_getElem (by omega)
 have h2 : L[(i+1) % n]?=some L[(i+1) % n]:=List.getElem?_eq_getElem (by omega)
 have h3 : Q[(i+1) % n]?=some Q[(i+1) % n]:=List.getElem?_eq_getElem (by omega)
 have h4 : Q[i]?=some Q[i]:=List.getElem?_eq_getElem (by omega)
 refine ⟨_,_,_,_,h1,h2,h3,h4, ?_, ?_⟩
 ·unfold prismTo
  rw [sides_step h1 h2 h3 h4,← List.append_assoc,tcs_append _ [_,_]]
  rfl
 ·unfold prismTo
  rw [sides_step h1 h2 h3 h4,← List.append_assoc,List.length_append]
  rfl
theorem prismTo_length {L Q : List SV} {n : Nat} (hL : L.length=n) (hQ : Q.length=n) (i : Nat) (hi : i≤n) : (prismTo L Q n i).length≤4 * n:=by
 unfold prismTo
 rw [List.length_append,List.length_append,List.length_map,fanL_length,fanL_length,sides_length L Q n hQ hL i hi]
 omega
theorem prismTo_end {L Q : List SV} {n : Nat} (hL : L.length=n) : prismTo L Q n n=prismL L Q:=by
 unfold prismTo prismL
 rw [hL]
set_option maxHeartbeats 2000000 in
set_option maxRecDepth 100000 in
theorem prism_walk (v : Value) (ps : List V3) (d : V3) (w : World) (hB : Bw w) (hv : Vs w v (tvs ps)) (hs : ∀ p ∈ ps,p.le 1000000) (hd : d.le 1000000) (h3 : 3≤ps.length) (hm : ps.length≤129) :
  Calls Tryz.prog 82 #[v,VV d] w (Ret fun r w'=>(∃ u,r=.tuple #[u,.int .i64 0]∧Ts w' u (prismL (tvs ps) (tvs (moved ps d))))∧Below w.heap.size w w'):=by
 have hle:=tvs_le hs (show 2 * 1000000+2≤40000000 by omega)
 have hdl:=txv_le hd
 have H1:=Lib.hid (fun w hB hv=>polygon_walk v (tvs ps) (4 * (ps.length : Int) - 4) w hB hv hle)
 rw [polC_tvs h3 (by omega) (by omega)] at H1
 have H2:=Lib.hid (fun w hB=>vValid_walk (txv d) ⟨Nat.le_trans hdl.1 (by omega),Nat.le_trans hdl.2.1 (by omega),Nat.le_trans hdl.2.2 (by omega)⟩ w hB)
 rw [isVec_txv,txv_val,VV_eq] at H2
 have H3:=Lib.hid (fun w hB hv=>fan_walk v (tvs ps) w hB hv (by rw [tvs_length]; omega) (by rw [tvs_length]; omega))
 have H4:=Lib.hid (fun q w hB hv=>fan_walk q (tvs (moved ps d)) w hB hv (by rw [moved_length]; omega) (by rw [moved_length]; omega))
 have H5:=Lib.hid (fun u w hB hv=>turned_walk u (fanL (tvs ps)) w hB hv (by rw [fanL_length,tvs_length]; omega))
 have H6:=Lib.hid (fun p v1 v2 w h1 h2 c0 c1=>concatT_walk p v1 v2 ((fanL (tvs ps)).map Tr.turn) (fanL (tvs (moved ps d))) (by rw [List.length_map,fanL_length,tvs_length]; omega) (by rw [fanL_length,moved_length]; omega) w h1 h2 c0 c1)
 have HP:=Lib.hid (fun (k : Nat) (hk : k<ps.length)=>moved_step (d:=d) hk)
 have HA:=Lib.hid (fun p (hp : p ∈ ps) w hB=>mplus_walk p d ((hs p hp).mono (by omega)) (hd.mono (by omega)) w hB)
 have HVO:=Lib.hid hv
 obtain ⟨A,cap,rfl,hn,hc,hcell⟩:=hv.open
 obtain ⟨b,off,rfl,hcl⟩:=hcell (by rw [tvs_length]; omega)
 have HCL:=Lib.hid hcl
 rw [tvs_length] at *
 clear hcell hcl hle hdl hs hd hv
 rw [VV_eq] at *
 have hn3 : 3≤(ps.length : Int):=by omega
 have hn129 : (ps.length : Int)≤129:=by omega
 obtain ⟨n,hnn⟩ : ∃ n,n=ps.length:=⟨_,rfl⟩
 have HN:=Lib.hid hnn
 rw [← hnn] at hn h3 hm hn3 hn129 H1 H3 HP HVO ⊢
 clear hnn
 have HDX : Hid (VV d=.agg #[.string (rtx d.x),.string (rtx d.y),.string (rtx d.z)]):=Lib.hid rfl
 obtain ⟨d1,hd1⟩ : ∃ s,s=rtx d.x:=⟨_,rfl⟩
 obtain ⟨d2,hd2⟩ : ∃ s,s=rtx d.y:=⟨_,rfl⟩
 obtain ⟨d3,hd3⟩ : ∃ s,s=rtx d.z:=⟨_,rfl⟩
 rw [← hd1,← hd2,← hd3] at H2 HA HDX ⊢
 clear hd1 hd2 hd3
 have hw1 : wrap64 (4 * (n : Int))=4 * (n : Int):=by unfold wrap64; omega
 have hw2 : wrap64 (4 * (n : Int) - 4)=4 * (n : Int) - 4:=by unfold wrap64; omega
 go_enter Tryz.func82,Tryz.ntmps82
 go_wp2_with fail
 refine (H1.out _ (hB.below bel) (HVO.out.below bel)).mono ?_
 rintro e w1 ⟨rfl,g1⟩
 have hz1 : w.heap.size<w1.heap.size:=hzs g1
 have B1:=bn (w:=w) bel g1
 have c1_0_0:=bcv g1 w.heap.size 0 (.string d1)
 have f1_0_0:=bfv g1 w.heap.size 0
 have c1_0_1:=bcv g1 w.heap.size 1 (.string d2)
 have f1_0_1:=bfv g1 w.heap.size 1
 have c1_0_2:=bcv g1 w.heap.size 2 (.string d3)
 have f1_0_2:=bfv g1 w.heap.size 2
 clear g1
 go_wp2_with fail
 refine (H2.out _ (hB.below bel)).mono ?_
 rintro e w2 ⟨rfl,g2⟩
 have hz2 : w.heap.size<w2.heap.size:=hzs g2
 have B2:=bn (w:=w) bel g2
 have c2_0_0:=bcv g2 w.heap.size 0 (.string d1)
 have f2_0_0:=bfv g2 w.heap.size 0
 have c2_0_1:=bcv g2 w.heap.size 1 (.string d2)
 have f2_0_1:=bfv g2 w.heap.size 1
 have c2_0_2:=bcv g2 w.heap.size 2 (.string d3)
 have f2_0_2:=bfv g2 w.heap.size 2
 clear g2
 go_wp2
 have hs2:=B2.size
 go_loopw [7,29] (fun ov ii wr=>∃ k : Nat,k≤n∧ii=.int .i64 k∧wr.ownsRow w2.heap.size 26 3 ov k (svs ((tvs (moved ps d)).take k))∧Below w2.heap.size w2 wr) (fun _ ii _=>n - (intOf ii).toNat)
 case atStart=>exact ⟨0,by omega,rfl,World.ownsRow_nil _ _ _ _,Below.refl _ _⟩
 case round =>
  obtain ⟨k,hk,rfl,hown,hb⟩:=hrel
  have hsr:=hb.size
  have hbw : Below w.heap.size w wr:=bn B2 hb
  by_cases hlt : k<n
  ·obtain ⟨p,hp,hg, -,hst⟩:=HP.out k hlt
   obtain ⟨a0,a1,a2⟩:=HCL.out _ _ hg
   simp only [txv] at a0 a1 a2
   have HPL:=Lib.hid (fun w hB=>HA.out p hp w hB)
   have HST:=Lib.hid hst
   have e0:=cell_below hb (cell_below B2 a0)
   have e1:=cell_below hb (cell_below B2 a1)
   have e2:=cell_below hb (cell_below B2 a2)
   have e3:=cell_below hb c2_0_0
   have e4:=cell_below hb c2_0_1
   have e5:=cell_below hb c2_0_2
   have hzr : w.heap.size<wr.heap.size:=World.block_lt_of_cell? wr _ e3
   have hk0 : (0 : Int)≤(k : Int):=by omega
   have hkn : (k : Int)<(n : Int):=by omega
   clear a0 a1 a2 hst hg
   rw [VV_eq p,VV_eq (p.add d)] at HPL
   generalize rtx p.x=x1 at *
   generalize rtx p.y=x2 at *
   generalize rtx p.z=x3 at *
   generalize rtx (p.add d).x=r1 at *
   generalize rtx (p.add d).y=r2 at *
   generalize rtx (p.add d).z=r3 at *
   go_wp2_with fail
   refine (HPL.out _ (hB.below bel)).mono ?_
   rintro e w3 ⟨rfl,g3⟩
   have hb3 : Below w2.heap.size w2 w3:=bn bel g3
   have hown3 : w3.ownsRow w2.heap.size 26 3 u7 k (svs ((tvs (moved ps d)).take k)):=own_below (hown.alloc _) g3
   have hs3:=hb3.size
   clear g3 hown
   go_wp2_with (at_builtin; refine append_at (w0:=w2) w2.heap.size rfl (.tmp 33) (.tmp 37) 59 26 _ 3 48 rfl Tryz.underlying59 info_vec rfl (by omega) (by omega) _ k 1 (svs ((tvs (moved ps d)).take k)) [.string r1,.string r2,.string r3] rfl w3.heap.size rfl (by omega) rfl (by simp [Value.oneCell']) (hown3.alloc _) (box_at _ _ rfl) bel (by (try simp)<;>omega) (by omega) ?_; intro v1 w4 hown4 hb4 hg4)
   have hown5 : w4.ownsRow w2.heap.size 26 3 v1 (k+1) (svs ((tvs (moved ps d)).take (k+1))):=by
    rw [HST.out]
    exact hown4
   clear hown4 hown3
   go_wp2
   go_roundw
   case rel=>exact ⟨k+1,by omega,by go_num,hown5,hb4⟩
   case measure=>simp [intOf]; omega
  ·obtain rfl : k=n:=by omega
   have hq : Vs wr u7 (tvs (moved ps d)):=by
    have e : (tvs (moved ps d)).take k=tvs (moved ps d):=by rw [show k=(tvs (moved ps d)).length by rw [moved_length]; exact HN.out]; exact List.take_length
    rw [e] at hown
    have h2 : (tvs (moved ps d)).length=k:=by rw [moved_length]; exact HN.out.symm
    refine Vs.own (base:=w2.heap.size) (e:=26) ?_
    rw [h2]
    exact hown
   clear hown
   have HQ:=Lib.hid hq
   obtain ⟨Aq,capq,rfl,hnq,hcq,hcellq⟩:=hq.open
   obtain ⟨bq,offq,rfl,hclq⟩:=hcellq (by rw [moved_length,← HN.out]; omega)
   have HCQ:=Lib.hid hclq
   have hql : (tvs (moved ps d)).length=k:=by rw [moved_length]; exact HN.out.symm
   rw [hql] at HQ hnq ⊢
   clear hcellq hclq hq hql
   have hl0:=HVO.out
   go_wp2_with fail
   refine (H3.out _ (hB.below hbw) (hl0.below hbw)).mono ?_
   rintro e w5 ⟨u5,rfl,ht5,g5⟩
   have hb5 : Below w.heap.size w w5:=bn hbw g5
   have HT5:=Lib.hid ht5
   obtain ⟨A5,cap5,rfl, -, -, -⟩:=ht5.open
   clear ht5
   go_wp2_with fail
   refine (H5.out _ _ (hB.below hb5) HT5.out).mono ?_
   rintro e w6 ⟨u6,rfl,ht6,g6⟩
   have hb6 : Below w.heap.size w w6:=bn hb5 g6
   have hr6 : Below wr.heap.size wr w6:=bn g5 g6
   have HT6:=Lib.hid ht6
   obtain ⟨A6,cap6,rfl, -, -, -⟩:=ht6.open
   clear ht6
   go_wp2_with fail
   refine (H4.out _ _ (hB.below hb6) (HQ.out.below hr6)).mono ?_
   rintro e w7 ⟨u7,rfl,ht7,g7⟩
   have hb7 : Below w.heap.size w w7:=bn hb6 g7
   have hr7 : Below wr.heap.size wr w7:=bn hr6 g7
   have HT7:=Lib.hid ht7
   obtain ⟨A7,cap7,rfl, -, -, -⟩:=ht7.open
   clear ht7
   go_wp2_with fail
   refine (H6.out w7.heap.size _ _ _ (HT6.out.below (bn g7 (ba (br _)))) (HT7.out.below (ba (br _))) (by go_simp) (by go_simp)).mono ?_
   rintro e w8 ⟨u8,rfl,hown8,g8⟩
   have hb78 : Below w7.heap.size w7 w8:=bn (ba (br _)) g8
   have hb8 : Below w.heap.size w w8:=bn hb7 hb78
   have HO8:=Lib.hid (own_base hown8 (show w7.heap.size≤_ by simp))
   clear g5 g6 g7 g8 hr6 hb5 hb6 hown8
   have hLl : (tvs ps).length=k:=by rw [tvs_length]; exact HN.out.symm
   have hQl : (tvs (moved ps d)).length=k:=by rw [moved_length]; exact HN.out.symm
   have HX:=Lib.hid (fun i (hi : i<k)=>prismTo_step hLl hQl hi)
   have HXL:=Lib.hid (fun i (hi : i≤k)=>prismTo_length hLl hQl i hi)
   have HXE:=Lib.hid (prismTo_end (Q:=tvs (moved ps d)) hLl)
   have HO9 : Hid (w8.ownsRow w7.heap.size 36 9 u8 (prismTo (tvs ps) (tvs (moved ps d)) k 0).length (tcs (prismTo (tvs ps) (tvs (moved ps d)) k 0))):=Lib.hid (by
    have:=HO8.out
    unfold prismTo
    rw [show sides (tvs ps) (tvs (moved ps d)) k 0=[] from rfl,List.append_nil]
    exact this)
   clear HO8 hLl hQl H1 H2 H3 H4 H5 H6 HP HA HT5 HT6 HT7
   generalize hQe : tvs (moved ps d)=Q at *
   generalize hLe : tvs ps=L at *
   have HQE:=Lib.hid hQe
   have HLE:=Lib.hid hLe
   clear hQe hLe
   obtain ⟨X,hX⟩ : ∃ X : Nat→List TV,X=prismTo L Q k:=⟨_,rfl⟩
   rw [← hX] at HX HXL HXE HO9
   clear hX
   have hs7:=hb7.size
   obtain ⟨wm,hwm⟩ : ∃ wm,wm=wr:=⟨_,rfl⟩
   subst hwm
   go_wp2
   go_loopw [10,49] (fun ov ii wr=>∃ i : Nat,i≤k∧ii=.int .i64 i∧Hid (wr.ownsRow w7.heap.size 36 9 ov (X i).length (tcs (X i)))∧Below w7.heap.size w7 wr) (fun _ ii _=>k - (intOf ii).toNat)
   case atStart=>exact ⟨0,by omega,rfl,HO9,hb78⟩
   case round =>
    obtain ⟨i,hi,rfl,hown,hb9⟩:=hrel
    have hs9:=hb9.size
    have hbw9 : Below w.heap.size w wr:=bn hb7 hb9
    have hbr9 : Below wm.heap.size wm wr:=bn hr7 hb9
    by_cases hlt2 : i<k
    ·obtain ⟨sa,sb,sc,sd,h1,h2,h3,h4,hst,hln⟩:=HX.out i hlt2
     have ha:=HCL.out _ _ h1
     have hbb:=HCL.out _ _ h2
     have hcc:=HCQ.out _ _ h3
     have hdd:=HCQ.out _ _ h4
     obtain ⟨j,hj⟩ : ∃ j,j=(i+1) % k:=⟨_,rfl⟩
     rw [← hj] at hbb hcc
     have hjk : j<k:=by rw [hj]; exact Nat.mod_lt _ (by omega)
     have hrem : ((i : Int)+1) % (k : Int)=(j : Int):=by rw [hj,Int.natCast_emod]; rfl
     have hi0 : (0 : Int)≤(i : Int):=by omega
     have hik : (i : Int)<(k : Int):=by omega
     have hj0 : (0 : Int)≤(j : Int):=by omega
     have hjk2 : (j : Int)<(k : Int):=by omega
     have HST:=Lib.hid hst
     have HLN:=Lib.hid hln
     have HXi:=Lib.hid (HXL.out i hi)
     clear h1 h2 h3 h4 hst hln hj
     have HTA : Hid (TV.cells ⟨sa,sb,sc⟩++TV.cells ⟨sa,sc,sd⟩=[.string sa.x,.string sa.y,.string sa.z,.string sb.x,.string sb.y,.string sb.z,.string sc.x,.string sc.y,.string sc.z,.string sa.x,.string sa.y,.string sa.z,.string sc.x,.string sc.y,.string sc.z,.string sd.x,.string sd.y,.string sd.z]):=Lib.hid rfl
     have Ha:=Lib.hid ha
     have Hb:=Lib.hid hbb
     have Hc:=Lib.hid hcc
     have Hd:=Lib.hid hdd
     clear ha hbb hcc hdd
     generalize sa.x=a0 at *
     generalize sa.y=a1 at *
     generalize sa.z=a2 at *
     generalize sb.x=b0 at *
     generalize sb.y=b1 at *
     generalize sb.z=b2 at *
     generalize sc.x=c0 at *
     generalize sc.y=c1 at *
     generalize sc.z=c2 at *
     generalize sd.x=d0 at *
     generalize sd.y=d1 at *
     generalize sd.z=d2 at *
     have qa0:=cell_below (bn hb7 hb9) Ha.out.1
     have qa1:=cell_below (bn hb7 hb9) Ha.out.2.1
     have qa2:=cell_below (bn hb7 hb9) Ha.out.2.2
     have qb0:=cell_below (bn hb7 hb9) Hb.out.1
     have qb1:=cell_below (bn hb7 hb9) Hb.out.2.1
     have qb2:=cell_below (bn hb7 hb9) Hb.out.2.2
     have qc0:=cell_below (bn hr7 hb9) Hc.out.1
     have qc1:=cell_below (bn hr7 hb9) Hc.out.2.1
     have qc2:=cell_below (bn hr7 hb9) Hc.out.2.2
     have qd0:=cell_below (bn hr7 hb9) Hd.out.1
     have qd1:=cell_below (bn hr7 hb9) Hd.out.2.1
     have qd2:=cell_below (bn hr7 hb9) Hd.out.2.2
     go_wp2_with fail
     go_region_held3 (fun w'=>w'.cell? ⟨b,off+i * 3,none⟩=some (.string a0)∧w'.cell? ⟨b,off+i * 3+1,none⟩=some (.string a1)∧w'.cell? ⟨b,off+i * 3+2,none⟩=some (.string a2)∧w'.cell? ⟨b,off+j * 3,none⟩=some (.string b0)∧w'.cell? ⟨b,off+j * 3+1,none⟩=some (.string b1)∧w'.cell? ⟨b,off+j * 3+2,none⟩=some (.string b2)∧w'.cell? ⟨bq,offq+j * 3,none⟩=some (.string c0)∧w'.cell? ⟨bq,offq+j * 3+1,none⟩=some (.string c1)∧w'.cell? ⟨bq,offq+j * 3+2,none⟩=some (.string c2)∧w'.cell? ⟨bq,offq+i * 3,none⟩=some (.string d0)∧w'.cell? ⟨bq,offq+i * 3+1,none⟩=some (.string d1)∧w'.cell? ⟨bq,offq+i * 3+2,none⟩=some (.string d2)∧Below w7.heap.size w7 w')
      ((go_split_ands; exact ⟨cell_below (bn hb7 bel) Ha.out.1,cell_below (bn hb7 bel) Ha.out.2.1,cell_below (bn hb7 bel) Ha.out.2.2,cell_below (bn hb7 bel) Hb.out.1,cell_below (bn hb7 bel) Hb.out.2.1,cell_below (bn hb7 bel) Hb.out.2.2,cell_below (bn hr7 bel) Hc.out.1,cell_below (bn hr7 bel) Hc.out.2.1,cell_below (bn hr7 bel) Hc.out.2.2,cell_below (bn hr7 bel) Hd.out.1,cell_below (bn hr7 bel) Hd.out.2.1,cell_below (bn hr7 bel) Hd.out.2.2,bel⟩))
      ((refine step_append_box (w0:=w7) w7.heap.size (by rfl) _ _ 22 36 _ 9 144 (by rfl) Tryz.underlying22 info_tri rfl (by omega) (by omega) _ (X i).length 2 (tcs (X i)) [.string a0,.string a1,.string a2,.string b0,.string b1,.string b2,.string c0,.string c1,.string c2,.string a0,.string a1,.string a2,.string c0,.string c1,.string c2,.string d0,.string d1,.string d2] (by rfl) wr.heap.size (by rfl) (by omega) (by rfl) (by simp [Value.oneCell']) (by first | exact (hown.out.alloc _).drew | exact hown.out.drew.alloc _) (by first | exact box_drew (box_at _ _ rfl) | exact box_at _ _ rfl) bel (by (try simp)<;>omega) (by have:=HXi.out; omega) ?_; intro v1 w9 hown9 hb10 hg9))
     have hown10 : Hid (w9.ownsRow w7.heap.size 36 9 v1 (X (i+1)).length (tcs (X (i+1)))):=Lib.hid (by
      rw [HST.out,HLN.out,HTA.out]
      exact hown9)
     clear hown9 hown
     go_wp2
     go_roundw
     case rel=>exact ⟨i+1,by omega,by go_num,hown10,hb10⟩
     case measure=>simp [intOf]; omega
    ·obtain rfl : i=k:=by omega
     have HR:=hown.out
     rw [HXE.out,← HLE.out,← HQE.out] at HR
     have HR2:=Lib.hid (Ts.own HR)
     clear HR hown
     go_wp2
     go_ret2
     exact ⟨_,rfl,⟨_,rfl,HR2.out⟩,hbw9⟩
end Go.Proofs.YtopfedbhkfdjkaaGreatDoor


/- mesh: Box. -/
namespace Go.Proofs.YtopfedbhkfdjkaaGreatDoor
open Go Go.RowKit
theorem boxAt_walk (x y z : ByteArray) (b : Nat) (w : World) (hz : w.cell? ⟨b,2,none⟩=some (.string z)) :
  Calls Tryz.prog 81 #[.string x,.string y,.pointer (some ⟨b,0,none⟩)] w fun e w'=>e=.returned (.agg #[.string x,.string y,.string z])∧Below w.heap.size w w':=by
 have hlt:=World.block_lt_of_cell? w _ hz
 go_enter Tryz.func81,Tryz.ntmps81
 go_wp2
 refine bodyPost_ret (v:=.agg #[.string x,.string y,.string z]) (by simp [results,Tryz.results81,go_sem, *]) rfl ⟨(by first | rfl | rw [hI]),bel⟩
set_option maxHeartbeats 4000000 in
set_option maxRecDepth 100000 in
theorem box_ok (x1 y1 z1 x2 y2 z2 u : ByteArray) (w : World) (hB : Bw w) (Q : Value→World→Prop)
  (h1 : ∀ w,Bw w→Calls Tryz.prog 32 #[.agg #[.string x1,.string y1,.string z1]] w fun e w'=>e=.returned (.bool true)∧Below w.heap.size w w')
  (h2 : ∀ w,Bw w→Calls Tryz.prog 32 #[.agg #[.string x2,.string y2,.string z2]] w fun e w'=>e=.returned (.bool true)∧Below w.heap.size w w')
  (h3 : ∀ w,Bw w→Calls Tryz.prog 57 #[.string x1,.string x2] w fun e w'=>e=.returned (.tuple #[.int .i64 (-1),.int .i64 0])∧Below w.heap.size w w')
  (h4 : ∀ w,Bw w→Calls Tryz.prog 57 #[.string y1,.string y2] w fun e w'=>e=.returned (.tuple #[.int .i64 (-1),.int .i64 0])∧Below w.heap.size w w')
  (h5 : ∀ w,Bw w→Calls Tryz.prog 57 #[.string z1,.string z2] w fun e w'=>e=.returned (.tuple #[.int .i64 (-1),.int .i64 0])∧Below w.heap.size w w')
  (h6 : ∀ w,Bw w→Calls Tryz.prog 40 #[.string z2,.string z1] w fun e w'=>e=.returned (.tuple #[.string u,.int .i64 0])∧Below w.heap.size w w')
  (h7 : ∀ w p,Bw w→Bk w p [.string x1,.string y1,.string z1,.string x2,.string y1,.string z1,.string x2,.string y2,.string z1,.string x1,.string y2,.string z1]→Calls Tryz.prog 82 #[.slice (some ⟨p,0,none⟩) 4 4,.agg #[.string ⟨#[48]⟩,.string ⟨#[48]⟩,.string u]] w (Ret fun r w'=>(∃ u,r=.tuple #[u,.int .i64 0]∧Q u w')∧Below w.heap.size w w')) :
  Calls Tryz.prog 43 #[.agg #[.string x1,.string y1,.string z1],.agg #[.string x2,.string y2,.string z2]] w (Ret fun r w'=>(∃ u,r=.tuple #[u,.int .i64 0]∧Q u w')∧Below w.heap.size w w'):=by
 have H1:=Lib.hid h1
 have H2:=Lib.hid h2
 have HC0:=Lib.hid h3
 have HC1:=Lib.hid h4
 have HC2:=Lib.hid h5
 have HS:=Lib.hid h6
 have HP:=Lib.hid h7
 clear h1 h2 h3 h4 h5 h6 h7
 go_enter Tryz.func43,Tryz.ntmps43
 go_wp2_with fail
 refine (H1.out _ (hB.below bel)).mono ?_
 rintro e w1 ⟨rfl,g1⟩
 have hz1 : w.heap.size+1<w1.heap.size:=hzs g1
 have hz1_0 : w.heap.size<w1.heap.size:=by omega
 have B1:=bn (w:=w) bel g1
 have c1_0_0:=bcv g1 w.heap.size 0 (.string x1)
 have f1_0_0:=bfv g1 w.heap.size 0
 have c1_0_1:=bcv g1 w.heap.size 1 (.string y1)
 have f1_0_1:=bfv g1 w.heap.size 1
 have c1_0_2:=bcv g1 w.heap.size 2 (.string z1)
 have f1_0_2:=bfv g1 w.heap.size 2
 have c1_1_0:=bcv g1 (w.heap.size+1) 0 (.string x2)
 have f1_1_0:=bfv g1 (w.heap.size+1) 0
 have c1_1_1:=bcv g1 (w.heap.size+1) 1 (.string y2)
 have f1_1_1:=bfv g1 (w.heap.size+1) 1
 have c1_1_2:=bcv g1 (w.heap.size+1) 2 (.string z2)
 have f1_1_2:=bfv g1 (w.heap.size+1) 2
 clear g1
 go_wp2_with fail
 refine (H2.out _ (hB.below bel)).mono ?_
 rintro e w2 ⟨rfl,g2⟩
 have hz2 : w.heap.size+1<w2.heap.size:=hzs g2
 have hz2_0 : w.heap.size<w2.heap.size:=by omega
 have B2:=bn (w:=w) bel g2
 have c2_0_0:=bcv g2 w.heap.size 0 (.string x1)
 have f2_0_0:=bfv g2 w.heap.size 0
 have c2_0_1:=bcv g2 w.heap.size 1 (.string y1)
 have f2_0_1:=bfv g2 w.heap.size 1
 have c2_0_2:=bcv g2 w.heap.size 2 (.string z1)
 have f2_0_2:=bfv g2 w.heap.size 2
 have c2_1_0:=bcv g2 (w.heap.size+1) 0 (.string x2)
 have f2_1_0:=bfv g2 (w.heap.size+1) 0
 have c2_1_1:=bcv g2 (w.heap.size+1) 1 (.string y2)
 have f2_1_1:=bfv g2 (w.heap.size+1) 1
 have c2_1_2:=bcv g2 (w.heap.size+1) 2 (.string z2)
 have f2_1_2:=bfv g2 (w.heap.size+1) 2
 clear g2
 go_wp2
 refine wp_loop_rounds 4 ?_
 rw [rounds_succ]
 go_wp2_with fail
 refine (HC0.out _ (hB.below bel)).mono ?_
 rintro e w3 ⟨rfl,g3⟩
 have d3_a0:=bcv g3 w.heap.size 0 (.string x1)
 have d3_a1:=bcv g3 w.heap.size 1 (.string y1)
 have d3_a2:=bcv g3 w.heap.size 2 (.string z1)
 have z3_a : w.heap.size<w3.heap.size:=World.block_lt_of_cell? w3 _ d3_a0
 have d3_b0:=bcv g3 (w.heap.size+1) 0 (.string x2)
 have d3_b1:=bcv g3 (w.heap.size+1) 1 (.string y2)
 have d3_b2:=bcv g3 (w.heap.size+1) 2 (.string z2)
 have z3_b : w.heap.size+1<w3.heap.size:=World.block_lt_of_cell? w3 _ d3_b0
 have d3_p0:=bcv g3 w2.heap.size 0 (.string x1)
 have d3_p1:=bcv g3 w2.heap.size 1 (.string x2)
 have d3_p2:=bcv g3 w2.heap.size 2 (.string y1)
 have d3_p3:=bcv g3 w2.heap.size 3 (.string y2)
 have d3_p4:=bcv g3 w2.heap.size 4 (.string z1)
 have d3_p5:=bcv g3 w2.heap.size 5 (.string z2)
 have z3_p : w2.heap.size<w3.heap.size:=World.block_lt_of_cell? w3 _ d3_p0
 have B3:=bn (w:=w) bel g3
 clear g3
 go_wp2
 rw [rounds_succ]
 go_wp2_with fail
 refine (HC1.out _ (hB.below bel)).mono ?_
 rintro e w4 ⟨rfl,g4⟩
 have d4_a0:=bcv g4 w.heap.size 0 (.string x1)
 have d4_a1:=bcv g4 w.heap.size 1 (.string y1)
 have d4_a2:=bcv g4 w.heap.size 2 (.string z1)
 have z4_a : w.heap.size<w4.heap.size:=World.block_lt_of_cell? w4 _ d4_a0
 have d4_b0:=bcv g4 (w.heap.size+1) 0 (.string x2)
 have d4_b1:=bcv g4 (w.heap.size+1) 1 (.string y2)
 have d4_b2:=bcv g4 (w.heap.size+1) 2 (.string z2)
 have z4_b : w.heap.size+1<w4.heap.size:=World.block_lt_of_cell? w4 _ d4_b0
 have d4_p0:=bcv g4 w2.heap.size 0 (.string x1)
 have d4_p1:=bcv g4 w2.heap.size 1 (.string x2)
 have d4_p2:=bcv g4 w2.heap.size 2 (.string y1)
 have d4_p3:=bcv g4 w2.heap.size 3 (.string y2)
 have d4_p4:=bcv g4 w2.heap.size 4 (.string z1)
 have d4_p5:=bcv g4 w2.heap.size 5 (.string z2)
 have z4_p : w2.heap.size<w4.heap.size:=World.block_lt_of_cell? w4 _ d4_p0
 have B4:=bn (w:=w) bel g4
 clear g4
 go_wp2
 rw [rounds_succ]
 go_wp2_with fail
 refine (HC2.out _ (hB.below bel)).mono ?_
 rintro e w5 ⟨rfl,g5⟩
 have d5_a0:=bcv g5 w.heap.size 0 (.string x1)
 have d5_a1:=bcv g5 w.heap.size 1 (.string y1)
 have d5_a2:=bcv g5 w.heap.size 2 (.string z1)
 have z5_a : w.heap.size<w5.heap.size:=World.block_lt_of_cell? w5 _ d5_a0
 have d5_b0:=bcv g5 (w.heap.size+1) 0 (.string x2)
 have d5_b1:=bcv g5 (w.heap.size+1) 1 (.string y2)
 have d5_b2:=bcv g5 (w.heap.size+1) 2 (.string z2)
 have z5_b : w.heap.size+1<w5.heap.size:=World.block_lt_of_cell? w5 _ d5_b0
 have d5_p0:=bcv g5 w2.heap.size 0 (.string x1)
 have d5_p1:=bcv g5 w2.heap.size 1 (.string x2)
 have d5_p2:=bcv g5 w2.heap.size 2 (.string y1)
 have d5_p3:=bcv g5 w2.heap.size 3 (.string y2)
 have d5_p4:=bcv g5 w2.heap.size 4 (.string z1)
 have d5_p5:=bcv g5 w2.heap.size 5 (.string z2)
 have z5_p : w2.heap.size<w5.heap.size:=World.block_lt_of_cell? w5 _ d5_p0
 have B5:=bn (w:=w) bel g5
 clear g5
 go_wp2
 rw [rounds_succ]
 go_wp2_with fail
 refine (HS.out _ (hB.below bel)).mono ?_
 rintro e w6 ⟨rfl,g6⟩
 have d6_a0:=bcv g6 w.heap.size 0 (.string x1)
 have d6_a1:=bcv g6 w.heap.size 1 (.string y1)
 have d6_a2:=bcv g6 w.heap.size 2 (.string z1)
 have z6_a : w.heap.size<w6.heap.size:=World.block_lt_of_cell? w6 _ d6_a0
 have d6_b0:=bcv g6 (w.heap.size+1) 0 (.string x2)
 have d6_b1:=bcv g6 (w.heap.size+1) 1 (.string y2)
 have d6_b2:=bcv g6 (w.heap.size+1) 2 (.string z2)
 have z6_b : w.heap.size+1<w6.heap.size:=World.block_lt_of_cell? w6 _ d6_b0
 have d6_p0:=bcv g6 w2.heap.size 0 (.string x1)
 have d6_p1:=bcv g6 w2.heap.size 1 (.string x2)
 have d6_p2:=bcv g6 w2.heap.size 2 (.string y1)
 have d6_p3:=bcv g6 w2.heap.size 3 (.string y2)
 have d6_p4:=bcv g6 w2.heap.size 4 (.string z1)
 have d6_p5:=bcv g6 w2.heap.size 5 (.string z2)
 have z6_p : w2.heap.size<w6.heap.size:=World.block_lt_of_cell? w6 _ d6_p0
 have B6:=bn (w:=w) bel g6
 clear g6
 go_wp2
 go_region_held3 (fun w'=>w'.cell? ⟨w.heap.size,0,none⟩=some (.string x1)∧w'.cell? ⟨w.heap.size,1,none⟩=some (.string y1)∧w'.cell? ⟨w.heap.size,2,none⟩=some (.string z1)∧w'.cell? ⟨w.heap.size+1,0,none⟩=some (.string x2)∧w'.cell? ⟨w.heap.size+1,1,none⟩=some (.string y2)∧w'.cell? ⟨w.heap.size+1,2,none⟩=some (.string z2)∧Below w6.heap.size w6 w')
  ((refine (fun hb=>⟨bc hb d6_a0,bc hb d6_a1,bc hb d6_a2,bc hb d6_b0,bc hb d6_b1,bc hb d6_b2,hb⟩) ?_; go_split_ands; repeat (first | with_reducible assumption | (with_reducible exact bd (br _)) | (with_reducible exact br _) | (with_reducible refine bn ?_ g) | (with_reducible refine ba ?_) | (with_reducible refine bd ?_) | (refine bs ?_ ?_; rotate_left; ((try simp)<;>omega)))))
  (first
   | (go_at_call 81; refine (boxAt_walk _ _ _ _ _ (by go_split_ands; first | with_reducible assumption | go_simp)).mono ?_; rintro e wx1 ⟨rfl,g⟩; have BX : Below w6.heap.size w6 wx1:=bn (by go_split_ands; assumption) g)
   | (go_at_call 82; refine (HP.out _ _ (hB.below (bn B6 (ba (by go_split_ands; assumption)))) (bk_at rfl)).mono ?_; rintro e wx1 ⟨_,rfl,⟨u1,rfl,hq⟩,g⟩; have BX : Below w6.heap.size w6 wx1:=bn (ba (by go_split_ands; assumption)) g; have HQ:=Lib.hid hq; clear hq))
 have HE : Below w.heap.size w wx1:=bn B6 BX
 go_wp2
 go_ret2
 exact ⟨_,rfl,⟨_,rfl,HQ.out⟩,HE⟩
end Go.Proofs.YtopfedbhkfdjkaaGreatDoor


/- mesh: Box on vectors. -/
namespace Go.Proofs.YtopfedbhkfdjkaaGreatDoor
open Go Go.RowKit
def V3.lt3 (a b : V3) : Prop:=a.x<b.x∧a.y<b.y∧a.z<b.z
theorem rcmp_lt {a b : Rat} (h : a<b) : rcmp a b = -1:=by unfold rcmp; rw [if_pos h]
def footI : List (Fin 8):=[0,1,2,3]
def topI : List (Fin 8):=[4,5,6,7]
def foot (a b : V3) : List V3:=footI.map (corner a b)
theorem foot_eq (a b : V3) : foot a b=[⟨a.x,a.y,a.z⟩,⟨b.x,a.y,a.z⟩,⟨b.x,b.y,a.z⟩,⟨a.x,b.y,a.z⟩]:=by
 simp [foot,footI,corner,bx,by',bz]
theorem foot_up (a b : V3) : moved (foot a b) ⟨0,0,b.z - a.z⟩=topI.map (corner a b):=by
 rw [foot_eq]
 simp only [moved,topI,corner,bx,by',bz,List.map_cons,List.map_nil,V3.add]
 have h : a.z + (b.z - a.z)=b.z:=by grind
 simp [h,Rat.add_zero]
theorem box_tris (a b : V3) : prismL (tvs (foot a b)) (tvs (moved (foot a b) ⟨0,0,b.z - a.z⟩))=(boxT a b).map (Tr.map txv):=by
 rw [foot_up,tvs,tvs,prismL_map,foot,prismL_map]
 rfl
theorem vs_of_bk {w : World} {p n : Nat} {l : List SV} (h : Bk w p (svs l)) (hn : n=l.length) (hm : l.length≤1000) : Vs w (.slice (some ⟨p,0,none⟩) n n) l:=by
 subst hn
 refine ⟨svs_length l,some ⟨p,0,none⟩,l.length,rfl,Nat.le_refl _,by unfold maxLen; omega,fun h0=>⟨p,0,rfl,fun j u hu=>?_⟩⟩
 rw [Nat.zero_add]
 exact h.cell j u hu
theorem mbox_ok (a b : V3) (ha : a.le 100000) (hb : b.le 100000) (h : a.lt3 b) (w : World) (hB : Bw w) :
  Calls Tryz.prog 43 #[VV a,VV b] w (Ret fun r w'=>(∃ u,r=.tuple #[u,.int .i64 0]∧Ts w' u ((boxT a b).map (Tr.map txv)))∧Below w.heap.size w w'):=by
 have hal:=txv_le ha
 have hbl:=txv_le hb
 have hz : rz (b.z - a.z)≤1000000:=rz_sub_le hb.2.2 ha.2.2 (by omega)
 have hal2 : (txv a).le 40000000:=⟨Nat.le_trans hal.1 (by omega),Nat.le_trans hal.2.1 (by omega),Nat.le_trans hal.2.2 (by omega)⟩
 have hbl2 : (txv b).le 40000000:=⟨Nat.le_trans hbl.1 (by omega),Nat.le_trans hbl.2.1 (by omega),Nat.le_trans hbl.2.2 (by omega)⟩
 refine box_ok (rtx a.x) (rtx a.y) (rtx a.z) (rtx b.x) (rtx b.y) (rtx b.z) (rtx (b.z - a.z)) w hB (fun u w'=>Ts w' u ((boxT a b).map (Tr.map txv))) ?_ ?_ ?_ ?_ ?_ ?_ ?_
 ·intro w hB
  have:=vValid_walk (txv a) hal2 w hB
  rw [isVec_txv] at this
  exact this
 ·intro w hB
  have:=vValid_walk (txv b) hbl2 w hB
  rw [isVec_txv] at this
  exact this
 ·intro w hB
  have:=rCompare_walk a.x b.x (Nat.le_trans ha.1 (by omega)) (Nat.le_trans hb.1 (by omega)) w hB
  rw [rcmp_lt h.1] at this
  exact this
 ·intro w hB
  have:=rCompare_walk a.y b.y (Nat.le_trans ha.2.1 (by omega)) (Nat.le_trans hb.2.1 (by omega)) w hB
  rw [rcmp_lt h.2.1] at this
  exact this
 ·intro w hB
  have:=rCompare_walk a.z b.z (Nat.le_trans ha.2.2 (by omega)) (Nat.le_trans hb.2.2 (by omega)) w hB
  rw [rcmp_lt h.2.2] at this
  exact this
 ·intro w hB
  exact rSub_walk b.z a.z (Nat.le_trans hb.2.2 (by omega)) (Nat.le_trans ha.2.2 (by omega)) w hB
 ·intro w p hB hk
  have hv : Vs w (.slice (some ⟨p,0,none⟩) 4 4) (tvs (foot a b)):=by
   refine vs_of_bk ?_ (by rw [foot_eq]; rfl) (by rw [foot_eq]; simp [tvs])
   rw [foot_eq]
   exact hk
  have hd : (⟨0,0,b.z - a.z⟩ : V3).le 1000000:=⟨by show rz 0≤_; rw [rz_zero]; omega,by show rz 0≤_; rw [rz_zero]; omega,hz⟩
  have hps : ∀ q ∈ foot a b,q.le 1000000:=by
   intro q hq
   have ha2:=ha.mono (show 100000≤1000000 by omega)
   have hb2:=hb.mono (show 100000≤1000000 by omega)
   rw [foot_eq] at hq
   simp only [List.mem_cons,List.not_mem_nil,or_false] at hq
   rcases hq with rfl | rfl | rfl | rfl
   ·exact ⟨ha2.1,ha2.2.1,ha2.2.2⟩
   ·exact ⟨hb2.1,ha2.2.1,ha2.2.2⟩
   ·exact ⟨hb2.1,hb2.2.1,ha2.2.2⟩
   ·exact ⟨ha2.1,hb2.2.1,ha2.2.2⟩
  have:=prism_walk (.slice (some ⟨p,0,none⟩) 4 4) (foot a b) ⟨0,0,b.z - a.z⟩ w hB hv hps hd (by rw [foot_eq]; simp) (by rw [foot_eq]; simp)
  rw [box_tris,VV_eq] at this
  rw [show rtx (⟨0,0,b.z - a.z⟩ : V3).x=⟨#[48]⟩ from rtx_zero] at this
  exact this
end Go.Proofs.YtopfedbhkfdjkaaGreatDoor
