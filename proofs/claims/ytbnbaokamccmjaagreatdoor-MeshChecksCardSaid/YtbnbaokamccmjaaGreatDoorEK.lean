/- plain: the shells of a solid, counted by growing one after the other. -/
import Derived.Test.YtbnbaokamccmjaaGreatDoorED
import Derived.Test.YtbnbaokamccmjaaGreatDoorEI
import Derived.Test.YtbnbaokamccmjaaGreatDoorEC
import Derived.Test.YtbnbaokamccmjaaGreatDoorEG
import Derived.Test.YtbnbaokamccmjaaGreatDoorEJ
import Derived.Test.YtbnbaokamccmjaaGreatDoorE8
set_option linter.unusedVariables false
set_option linter.unusedSimpArgs false
namespace Go.Proofs.YtbnbaokamccmjaaGreatDoor
variable {α : Type} [DecidableEq α]
theorem root_pts {l : List (Tr α)} {t : Tr α} (ht : t ∈ l) {p : α} (hp : p ∈ t.pts) : rootOf (shellR l) p=rootOf (shellR l) t.a:=by
 obtain ⟨e1,e2⟩:=(si_shellR l).comp t ht
 simp only [Tr.pts,List.mem_cons,List.not_mem_nil,or_false] at hp
 rcases hp with rfl | rfl | rfl
 ·rfl
 ·exact e1
 ·exact e2
structure Shd (l : List (Tr α)) (d : List Bool) (n : Nat) : Prop where
 len : d.length=l.length
 whole : ∀ (i j : Nat) (t u : Tr α) (p : α),l[i]?=some t→l[j]?=some u→d[i]?=some true→p ∈ t.pts→p ∈ u.pts→d[j]?=some true
 roots : ∃ rs : List α,rs.length=n∧rs.Nodup∧(∀ (i : Nat) (t : Tr α),l[i]?=some t→d[i]?=some true→rootOf (shellR l) t.a ∈ rs)∧(∀ r ∈ rs,∃ (i : Nat) (t : Tr α),l[i]?=some t∧d[i]?=some true∧rootOf (shellR l) t.a=r)
structure Grw (l : List (Tr α)) (d0 d : List Bool) (i : Nat) (sh : List α) : Prop where
 len : d.length=l.length
 more : ∀ k : Nat,d0[k]?=some true→d[k]?=some true
 pts : ∀ p,p ∈ sh↔∃ (k : Nat) (t : Tr α),l[k]?=some t∧d[k]?=some true∧d0[k]?≠some true∧p ∈ t.pts
 root : ∀ (k : Nat) (t s : Tr α),l[k]?=some t→l[i]?=some s→d[k]?=some true→d0[k]?≠some true→rootOf (shellR l) t.a=rootOf (shellR l) s.a
theorem Shd.start (l : List (Tr α)) : Shd l (List.replicate l.length false) 0:=by
 have h : ∀ i : Nat,(List.replicate l.length false)[i]?≠some true:=fun i e=>by
  have:=List.mem_of_getElem? e
  simp at this
 exact ⟨by simp,fun i j t u p h1 h2 h3=>absurd h3 (h i),[],rfl,by simp,fun i t h1 h2=>absurd h2 (h i),by simp⟩
theorem Grw.start {l : List (Tr α)} {d0 : List Bool} (h : d0.length=l.length) (i : Nat) : Grw l d0 d0 i [] :=
 ⟨h,fun k e=>e,fun p=>⟨fun h=>by simp at h,fun ⟨k,t,h1,h2,h3,h4⟩=>absurd h2 h3⟩,fun k t s h1 h2 h3 h4=>absurd h3 h4⟩
theorem Grw.grow {l : List (Tr α)} {d0 d : List Bool} {i k : Nat} {sh : List α} {t : Tr α} (h : Grw l d0 d i sh) (hk : l[k]?=some t) (hd : d[k]?=some false) (hc : k=i∨t.a ∈ sh∨t.b ∈ sh∨t.c ∈ sh) :
  Grw l d0 (d.set k true) i (sh++[t.a,t.b,t.c]):=by
 have hlt : k<d.length:=(List.getElem?_eq_some_iff.1 hd).1
 have h0 : d0[k]?≠some true:=fun e=>by have:=h.more k e; rw [hd] at this; cases this
 have hset : ∀ j : Nat,(d.set k true)[j]?=some true↔j=k∨d[j]?=some true:=fun j=>by
  rw [List.getElem?_set]
  by_cases e : k=j
  ·subst e; rw [if_pos rfl,if_pos hlt]; simp
  ·rw [if_neg e]; exact ⟨fun x=>.inr x,fun x=>x.elim (fun y=>absurd y.symm e) id⟩
 refine ⟨by rw [List.length_set]; exact h.len,fun j e=>(hset j).2 (.inr (h.more j e)),fun p=>?_,fun j u s hj hs hdj h0j=>?_⟩
 ·rw [List.mem_append,h.pts]
  constructor
  ·rintro (⟨j,u,h1,h2,h3,h4⟩ | hp)
   ·exact ⟨j,u,h1,(hset j).2 (.inr h2),h3,h4⟩
   ·exact ⟨k,t,hk,(hset k).2 (.inl rfl),h0,hp⟩
  ·rintro ⟨j,u,h1,h2,h3,h4⟩
   rcases (hset j).1 h2 with rfl | h2
   ·rw [hk] at h1; cases h1; exact .inr h4
   ·exact .inl ⟨j,u,h1,h2,h3,h4⟩
 ·rcases (hset j).1 hdj with rfl | hdj
  ·rw [hk] at hj; cases hj
   rcases hc with rfl | hc
   ·rw [hk] at hs; cases hs; rfl
   ·have key : ∀ p,p ∈ sh→p ∈ t.pts→rootOf (shellR l) t.a=rootOf (shellR l) s.a:=fun p hp hpt=>by
     obtain ⟨j2,u2,g1,g2,g3,g4⟩:=(h.pts p).1 hp
     rw [← root_pts (List.mem_of_getElem? hk) hpt,root_pts (List.mem_of_getElem? g1) g4]
     exact h.root j2 u2 s g1 hs g2 g3
    rcases hc with hc | hc | hc
    ·exact key _ hc (by simp [Tr.pts])
    ·exact key _ hc (by simp [Tr.pts])
    ·exact key _ hc (by simp [Tr.pts])
  ·exact h.root j u s hj hs hdj h0j
theorem Grw.done {l : List (Tr α)} {d0 d : List Bool} {i n : Nat} {sh : List α} {s : Tr α} (h : Grw l d0 d i sh) (hS : Shd l d0 n) (hlow : ∀ j : Nat,j<i→d0[j]?=some true) (hi : d0[i]?=some false) (hs : l[i]?=some s)
  (hq : ∀ (k : Nat) (t : Tr α),i≤k→l[k]?=some t→d[k]?=some true∨(k≠i∧t.a ∉ sh∧t.b ∉ sh∧t.c ∉ sh)) : Shd l d (n+1)∧∀ j : Nat,j<i+1→d[j]?=some true:=by
 have hdi : d[i]?=some true:=(hq i s (Nat.le_refl _) hs).elim id (fun e=>absurd rfl e.1)
 have hin : ∀ x : Nat,d0[x]?=some false→d0[x]?≠some true:=fun x e e2=>by rw [e] at e2; cases e2
 refine ⟨⟨h.len,fun a b t u p h1 h2 h3 h4 h5=>?_, ?_⟩,fun j hj=>?_⟩
 ·by_cases hda : d0[a]?=some true
  ·exact h.more b (hS.whole a b t u p h1 h2 hda h4 h5)
  ·have hp : p ∈ sh:=(h.pts p).2 ⟨a,t,h1,h3,hda,h4⟩
   by_cases hb : b<i
   ·exact h.more b (hlow b hb)
   ·rcases hq b u (by omega) h2 with e | ⟨-,e1,e2,e3⟩
    ·exact e
    ·simp only [Tr.pts,List.mem_cons,List.not_mem_nil,or_false] at h5
     rcases h5 with rfl | rfl | rfl
     ·exact absurd hp e1
     ·exact absurd hp e2
     ·exact absurd hp e3
 ·obtain ⟨rs,r1,r2,r3,r4⟩:=hS.roots
  refine ⟨rootOf (shellR l) s.a :: rs,by rw [List.length_cons,r1], ?_,fun k t hk hdk=>?_,fun r hr=>?_⟩
  ·rw [List.nodup_cons]
   refine ⟨fun hm=>?_,r2⟩
   obtain ⟨j,u,hj,hdj,hr⟩:=r4 _ hm
   classical
   let g : α→α:=fun z=>if (∃ (k : Nat) (t : Tr α),l[k]?=some t∧d0[k]?=some true∧z ∈ t.pts) then u.a else s.a
   have hg : ∀ t ∈ l,g t.b=g t.a∧g t.c=g t.a:=by
    intro t ht
    obtain ⟨m,hm⟩:=List.getElem?_of_mem ht
    by_cases hdm : d0[m]?=some true
    ·have y : ∀ z,z ∈ t.pts→g z=u.a:=fun z hz=>if_pos ⟨m,t,hm,hdm,hz⟩
     rw [y t.a (by simp [Tr.pts]),y t.b (by simp [Tr.pts]),y t.c (by simp [Tr.pts])]
     exact ⟨rfl,rfl⟩
    ·have y : ∀ z,z ∈ t.pts→g z=s.a:=fun z hz=>if_neg (fun ⟨k,v,h1,h2,h3⟩=>hdm (hS.whole k m v t z h1 hm h2 h3 hz))
     rw [y t.a (by simp [Tr.pts]),y t.b (by simp [Tr.pts]),y t.c (by simp [Tr.pts])]
     exact ⟨rfl,rfl⟩
   have hsd:=(si_shellR l).sound g hg
   have hno : ¬ ∃ (k : Nat) (t : Tr α),l[k]?=some t∧d0[k]?=some true∧s.a ∈ t.pts:=fun ⟨k,v,h1,h2,h3⟩=>hin i hi (hS.whole k i v s s.a h1 hs h2 h3 (by simp [Tr.pts]))
   have hyes : ∃ (k : Nat) (t : Tr α),l[k]?=some t∧d0[k]?=some true∧u.a ∈ t.pts:=⟨j,u,hj,hdj,by simp [Tr.pts]⟩
   have e1 : g u.a=u.a:=if_pos hyes
   have e2 : g s.a=s.a:=if_neg hno
   have e3:=hsd u.a
   rw [hr,hsd s.a,e1,e2] at e3
   rw [e3] at hno
   exact hno hyes
  ·by_cases hda : d0[k]?=some true
   ·exact List.mem_cons_of_mem _ (r3 k t hk hda)
   ·rw [h.root k t s hk hs hdk hda]
    exact List.mem_cons_self
  ·rcases List.mem_cons.1 hr with rfl | hr
   ·exact ⟨i,s,hs,hdi,rfl⟩
   ·obtain ⟨j,u,hj,hdj,e⟩:=r4 r hr
    exact ⟨j,u,hj,h.more j hdj,e⟩
 ·by_cases e : j=i
  ·rw [e]; exact hdi
  ·exact h.more j (hlow j (by omega))
theorem Shd.all {l : List (Tr α)} {d : List Bool} {n : Nat} (h : Shd l d n) (hd : ∀ j : Nat,j<l.length→d[j]?=some true) : n=shellsL l:=by
 obtain ⟨rs,r1,r2,r3,r4⟩:=h.roots
 have h1:=si_shellR l
 have nd : (rootsL l).Nodup:=h1.ri.nodup.sublist List.filter_sublist
 rw [shells_roots,← r1]
 have key : ∀ t ∈ l,rootOf (shellR l) t.a ∈ rs:=fun t ht=>by
  obtain ⟨m,hm⟩:=List.getElem?_of_mem ht
  exact r3 m t hm (hd m (List.getElem?_eq_some_iff.1 hm).1)
 apply Nat.le_antisymm
 ·refine nodup_le _ _ r2 fun r hr=>?_
  obtain ⟨j,u,hj, -,rfl⟩:=r4 r hr
  have hk : u.a ∈ (shellR l).map (·.1):=(h1.keys u.a).2 (mem_tpts_iff.2 ⟨u,List.mem_of_getElem? hj,.inl rfl⟩)
  refine List.mem_filter.2 ⟨(h1.ri.root _ hk).1, ?_⟩
  simpa using (h1.ri.root _ hk).2
 ·refine nodup_le _ _ nd fun x hx=>?_
  obtain ⟨hx1,hx2⟩:=List.mem_filter.1 hx
  have hx3 : rootOf (shellR l) x=x:=by simpa using hx2
  obtain ⟨t,ht,hp⟩:=mem_tpts_iff.1 ((h1.keys x).1 hx1)
  have hpt : x ∈ t.pts:=by simp only [Tr.pts,List.mem_cons,List.not_mem_nil,or_false]; exact hp
  rw [← hx3,root_pts ht hpt]
  exact key t ht
def left (d : List Bool) : Nat:=d.countP fun b => !b
theorem left_set : ∀ {d : List Bool} {k : Nat},d[k]?=some false→left (d.set k true)+1=left d
 | [],k,h=>by simp at h
 | b :: d,0,h=>by simp at h; subst h; simp [left]
 | b :: d,k+1,h=>by
  have:=left_set (d:=d) (k:=k) (by simpa using h)
  unfold left at *
  rw [List.set_cons_succ,List.countP_cons,List.countP_cons]
  omega
end Go.Proofs.YtbnbaokamccmjaaGreatDoor

/- garboardref12: has, Points. -/
namespace Go.Proofs.YtbnbaokamccmjaaGreatDoor
open Go Go.RowKit
set_option maxHeartbeats 4000000 in
set_option maxRecDepth 100000 in
theorem rhas_walk (v : Value) (l : List SV) (s : SV) (w : World) (hv : Vs w v l) :
  Calls Tryz.prog 80 #[v,s.val] w fun e w'=>e=.returned (.bool (decide (s ∈ l)))∧Below w.heap.size w w':=by
 obtain ⟨A,cap,rfl,hn,hc,hcell⟩:=hv.open
 have HCL:=Lib.hid hcell
 have HTE:=Lib.hid (show l.take l.length=l from List.take_length)
 obtain ⟨n,hn0⟩ : ∃ n,n=l.length:=⟨_,rfl⟩
 have HG:=Lib.hid (fun k (hk : k<n)=>(show ∃ s,l[k]?=some s from ⟨_,List.getElem?_eq_getElem (by rw [← hn0]; exact hk)⟩))
 have HIN:=Lib.hid (fun (k : Nat) (t : SV) (h : l[k]?=some t) (e : t=s)=>(show decide (s ∈ l)=true from decide_eq_true (e ▸ List.mem_of_getElem? h)))
 have HST:=Lib.hid (fun (k : Nat) (t : SV) (h : l[k]?=some t) (e : t≠s) (hi : s ∉ l.take k)=>(show s ∉ l.take (k+1) from by
  rw [List.take_add_one,h]
  simp only [Option.toList,List.mem_append,List.mem_singleton,not_or]
  exact ⟨hi,fun e2=>e e2.symm⟩))
 rw [← hn0] at hn HCL HTE ⊢
 clear hn0 hv hcell
 unfold SV.val
 go_enter Tryz.func80,Tryz.ntmps80
 go_wp2
 have HBX : Hid (Bk (w.alloc (.cells #[.string s.x,.string s.y,.string s.z] 25)) w.heap.size [.string s.x,.string s.y,.string s.z]):=Lib.hid bkk
 obtain ⟨W,hW⟩ : ∃ W,W=(w.alloc (.cells #[.string s.x,.string s.y,.string s.z] 25)):=⟨_,rfl⟩
 have hbW : Below w.heap.size w W:=by rw [hW]; exact bel
 rw [← hW] at HBX ⊢
 clear hW
 go_loopw [5] (fun ii wr=>∃ k : Nat,k≤n∧ii=.int .i64 k∧Hid (s ∉ l.take k)∧Below W.heap.size W wr) (fun ii _=>n - (intOf ii).toNat)
 case atStart=>exact ⟨0,Nat.zero_le _,rfl,Lib.hid (by simp),Below.refl _ _⟩
 case round =>
  obtain ⟨k,hk,rfl,hd,hb⟩:=hrel
  by_cases hlt : k<n
  ·obtain ⟨t,hg⟩:=HG.out k hlt
   obtain ⟨b,off,rfl,hcl⟩:=HCL.out (by omega)
   obtain ⟨c0,c1,c2⟩:=hcl k _ hg
   have c0:=cell_below (bn hbW hb) c0
   have c1:=cell_below (bn hbW hb) c1
   have c2:=cell_below (bn hbW hb) c2
   obtain ⟨d0,d1,d2, -⟩:=(HBX.out.below hb).c3
   have hk0 : (0 : Int)≤(k : Int):=by omega
   have hkn : (k : Int)<(n : Int):=by omega
   have nq : ∀ w,(binOp .eql 25 (.agg #[.string t.x,.string t.y,.string t.z]) (.agg #[.string s.x,.string s.y,.string s.z])).run Tryz.prog w=.ok (.bool (decide (t=s))) w:=fun w=>by rw [eql_vec,sv_eq]
   have HY:=Lib.hid (HIN.out k t hg)
   have HN:=Lib.hid (fun e=>HST.out k t hg e hd.out)
   have hbw : Below w.heap.size w wr:=bn hbW hb
   clear hg hcl hd HIN HST
   by_cases hts : t=s
   ·rw [decide_eq_true hts] at nq
    have E:=Lib.hid (HY.out hts)
    clear HY HN hts
    generalize t.x=x0 at *
    generalize t.y=y0 at *
    generalize t.z=z0 at *
    generalize s.x=sx at *
    generalize s.y=sy at *
    generalize s.z=sz at *
    go_wp2_with fail
    go_quiet (fail)
    go_wp2
    go_ret
    exact ⟨by rw [E.out]; rfl,by first | exact hbw | exact bd hbw | exact below_drewN hbw _⟩
   ·rw [decide_eq_false hts] at nq
    have E:=Lib.hid (HN.out hts)
    clear HY HN hts
    generalize t.x=x0 at *
    generalize t.y=y0 at *
    generalize t.z=z0 at *
    go_wp2_with fail
    go_quiet (fail)
    go_wp2
    go_roundw
    case rel=>exact ⟨k+1,by omega,by go_num,E,by first | exact hb | exact bd hb | exact below_drewN hb _⟩
    case measure=>simp [intOf]; omega
  ·obtain rfl : k=n:=by omega
   rw [HTE.out] at hd
   have E:=Lib.hid (decide_eq_false hd.out)
   clear hd
   have hbw : Below w.heap.size w wr:=bn hbW hb
   go_wp2
   go_ret
   exact ⟨by rw [E.out]; rfl,hbw⟩
set_option maxHeartbeats 1000000 in
theorem rPoints_bad (v : Value) (l : List TV) (z : Int) (w : World) (hv : Ts w v l) (hs : tle l 10000000) (hz : chkC l=z) (h0 : z≠0) :
  Calls Tryz.prog 36 #[v] w fun e w'=>e=.returned (.tuple #[.slice none 0 0,.int .i64 z])∧Below w.heap.size w w':=by
 have H:=Lib.hid (fun w hv=>rCheck_walk v l w hv hs)
 rw [hz] at H
 obtain ⟨A,cap,rfl,hn,hc,hcell⟩:=hv.open
 clear hcell hn hc hs hz
 go_enter Tryz.func36,Tryz.ntmps36
 go_wp2_with fail
 refine (H.out _ (hv.below bel)).mono ?_
 rintro e w1 ⟨rfl,g1⟩
 have B1:=bn (w:=w) bel g1
 clear g1
 go_wp2
 go_ret2
 exact ⟨rfl,bel⟩
theorem ts_pt3 {w : World} {b off k : Nat} {t : TV} (h : ∀ i u,(TV.cells t)[i]?=some u→w.cell? ⟨b,off + (k * 9+i),none⟩=some u) : ∀ j s,t.pts[j]?=some s →
  w.cell? ⟨b,off+k * 9+j * 3,none⟩=some (.string s.x)∧w.cell? ⟨b,off+k * 9+j * 3+1,none⟩=some (.string s.y)∧w.cell? ⟨b,off+k * 9+j * 3+2,none⟩=some (.string s.z):=by
 intro j s hs
 have hj : j<3:=(List.getElem?_eq_some_iff.1 hs).1
 obtain ⟨c0,c1,c2,c3,c4,c5,c6,c7,c8⟩:=ts_nine h
 rcases (show j=0∨j=1∨j=2 by omega) with rfl | rfl | rfl
 ·cases hs
  exact ⟨c0,c1,c2⟩
 ·cases hs
  exact ⟨c3,c4,c5⟩
 ·cases hs
  exact ⟨c6,c7,c8⟩
theorem own_sl {w : World} {base sz n : Nat} {e : TypeId} {v : Value} {xs : List Value} (h : w.ownsRow base e sz v n xs) : ∃ A cap,v=.slice A n cap:=by
 rcases h.2 with ⟨rfl,rfl⟩ | ⟨g,cap,cur,rfl,_⟩
 ·exact ⟨none,0,rfl⟩
 ·exact ⟨some ⟨g,0,none⟩,cap,rfl⟩
theorem take_tpts {α : Type} {l : List (Tr α)} {k : Nat} {t : Tr α} (h : l[k]?=some t) : tpts (l.take (k+1))=tpts (l.take k)++t.pts:=by
 rw [List.take_add_one,h]
 unfold tpts
 rw [List.flatMap_append]
 simp
theorem take_pt {α : Type} {l : List α} {j : Nat} {s : α} (h : l[j]?=some s) (es : List α) : es++l.take (j+1)=(es++l.take j)++[s]:=by
 rw [List.take_add_one,h,List.append_assoc]
 rfl
set_option maxHeartbeats 4000000 in
set_option maxRecDepth 100000 in
theorem rPoints_ok (v : Value) (l : List TV) (w : World) (hv : Ts w v l) (hs : tle l 10000000) (hz : chkC l=0) :
  Calls Tryz.prog 36 #[v] w (Ret fun r w'=>(∃ u,r=.tuple #[u,.int .i64 0]∧Vs w' u (pointsL l))∧Below w.heap.size w w'):=by
 have H:=Lib.hid (fun w hv=>rCheck_walk v l w hv hs)
 rw [hz] at H
 have hm:=chkC_zero hz
 have HVV:=Lib.hid hv
 obtain ⟨A,cap,rfl,hn,hc,hcell⟩:=hv.open
 have HCL:=Lib.hid hcell
 have HTE:=Lib.hid (show l.take l.length=l from List.take_length)
 obtain ⟨n,hn0⟩ : ∃ n,n=l.length:=⟨_,rfl⟩
 have HG:=Lib.hid (fun k (hk : k<n)=>(show ∃ t,l[k]?=some t from ⟨_,List.getElem?_eq_getElem (by rw [← hn0]; exact hk)⟩))
 have hm2 : n≤1000000:=by omega
 have HNL : Hid (∀ k qs,(nub (tpts (l.take k)++List.take qs ((l[k]?.map Tr.pts).getD []))).length≤3 * n+3):=Lib.hid (fun k qs=>by
  refine Nat.le_trans (nub_length _) ?_
  rw [List.length_append,tpts_length]
  have h2 : (l.take k).length≤l.length:=by rw [List.length_take]; omega
  have h3 : (List.take qs ((l[k]?.map Tr.pts).getD [])).length≤3:=by
   rw [List.length_take]
   cases l[k]? with
   | none=>simp
   | some t=>simp [Tr.pts]; omega
  omega)
 have HPL : Hid (pointsL l=nub (tpts l)):=Lib.hid rfl
 rw [← hn0] at hn H HCL HTE HVV ⊢
 clear hn0 hv hcell hs hz hm
 go_enter Tryz.func36,Tryz.ntmps36
 go_wp2_with fail
 refine (H.out _ (HVV.out.below bel)).mono ?_
 rintro e w1 ⟨rfl,g1⟩
 have B1:=bn (w:=w) bel g1
 clear g1
 go_wp2
 go_loopw [5,6] (fun ov ii wr=>∃ i : Nat,i≤n∧ii=.int .i64 i∧Hid (wr.ownsRow w.heap.size 25 3 ov (nub (tpts (l.take i))).length (svs (nub (tpts (l.take i)))))∧Below w.heap.size w wr) (fun _ ii _=>n - (intOf ii).toNat)
 case atStart=>exact ⟨0,Nat.zero_le _,rfl,Lib.hid (World.ownsRow_nil _ _ _ _),B1⟩
 case round =>
  obtain ⟨i,hi,rfl,hown,hb⟩:=hrel
  by_cases hlt : i<n
  ·obtain ⟨t,hg⟩:=HG.out i hlt
   obtain ⟨b,off,rfl,hcl⟩:=HCL.out (by omega)
   have HP:=Lib.hid (ts_pt3 (fun i u hu=>hcl _ _ hg i u hu))
   have HTK:=Lib.hid (take_tpts hg)
   have HL : Hid (∀ j,(nub (tpts (l.take i)++t.pts.take j)).length≤3000003):=Lib.hid (fun j=>by have:=HNL.out i j; rw [hg] at this; simp only [Option.map_some,Option.getD_some] at this; omega)
   have hi0 : (0 : Int)≤(i : Int):=by omega
   have hin : (i : Int)<(n : Int):=by omega
   clear hg hcl
   obtain ⟨es,hes⟩ : ∃ es,es=tpts (l.take i):=⟨_,rfl⟩
   rw [← hes] at hown HL HTK
   clear hes
   go_wp2
   go_loopw [5,7] (fun ov jj wx=>∃ j : Nat,j≤3∧jj=.int .i64 j∧Hid (wx.ownsRow w.heap.size 25 3 ov (nub (es++t.pts.take j)).length (svs (nub (es++t.pts.take j)))∧Below w.heap.size w wx)) (fun _ jj _=>3 - (intOf jj).toNat)
   case atStart=>exact ⟨0,by omega,rfl,Lib.hid ⟨by rw [List.take_zero,List.append_nil]; exact hown.out,hb⟩⟩
   case round =>
    obtain ⟨j,hj,rfl,ho⟩:=hrel
    by_cases hjt : j<3
    ·obtain ⟨s,hs⟩ : ∃ s,t.pts[j]?=some s:=⟨_,List.getElem?_eq_getElem hjt⟩
     obtain ⟨c0,c1,c2⟩:=HP.out _ _ hs
     have C0:=Lib.hid c0
     have C1:=Lib.hid c1
     have C2:=Lib.hid c2
     have c0:=cell_below ho.out.2 c0
     have c1:=cell_below ho.out.2 c1
     have c2:=cell_below ho.out.2 c2
     have HE:=Lib.hid (take_pt hs es)
     have HLj:=Lib.hid (HL.out j)
     have hj0 : (0 : Int)≤(j : Int):=by omega
     have hjn : (j : Int)<3:=by omega
     clear hs HL HP HTK
     obtain ⟨qs,hqs⟩ : ∃ qs,qs=es++t.pts.take j:=⟨_,rfl⟩
     rw [← hqs] at ho HE HLj
     clear hqs
     obtain ⟨A2,cap2,rfl⟩:=own_sl ho.out.1
     have HF:=Lib.hid (fun v w hv=>rhas_walk v (nub qs) s w hv)
     have HSV : Hid (svs [s]=[.string s.x,.string s.y,.string s.z]):=Lib.hid rfl
     have HO:=Lib.hid ho.out.1
     have hbw:=ho.out.2
     have HNI:=Lib.hid (fun h=>nub_in (l:=qs) (s:=s) h)
     have HNO:=Lib.hid (fun h=>nub_out (l:=qs) (s:=s) h)
     clear ho
     unfold SV.val at HF
     generalize s.x=x0 at *
     generalize s.y=y0 at *
     generalize s.z=z0 at *
     go_wp2_with fail
     refine (HF.out _ _ (Vs.below (Vs.own HO.out) bel)).mono ?_
     rintro e w2 ⟨rfl,g⟩
     have HO2:=Lib.hid (own_below HO.out (bn (Below.refl _ _) g))
     have hbw2 : Below w.heap.size w w2:=bn hbw g
     have hsz2:=hbw2.size
     clear g c0 c1 c2 HO
     by_cases hin : s ∈ nub qs
     ·rw [decide_eq_true hin]
      have E:=Lib.hid (HNI.out hin)
      clear HNI HNO hin
      go_wp2
      go_roundw
      case rel=>exact ⟨j+1,by omega,by go_num,Lib.hid ⟨by rw [HE.out,E.out]; exact HO2.out,hbw2⟩⟩
      case measure=>simp [intOf]; omega
     ·rw [decide_eq_false hin]
      have E:=Lib.hid (HNO.out hin)
      clear HNI HNO hin
      have c0:=cell_below hbw2 C0.out
      have c1:=cell_below hbw2 C1.out
      have c2:=cell_below hbw2 C2.out
      go_wp2_with (at_builtin; refine append_at (w0:=w) w.heap.size rfl (.tmp 32) (.tmp 39) 22 25 _ 3 48 rfl Tryz.underlying22 info_vec rfl (by omega) (by omega) _ (nub qs).length 1 (svs (nub qs)) [.string x0,.string y0,.string z0] rfl w2.heap.size rfl (by omega) rfl (by simp [Value.oneCell']) (HO2.out.alloc _) (box_at _ _ rfl) (ba hbw2) (by (try simp)<;>omega) (by have:=HLj.out; omega) ?_; intro v1 w3 hown1 hb1 hg1)
      have HO3 : Hid (w3.ownsRow w.heap.size 25 3 v1 (nub (es++t.pts.take (j+1))).length (svs (nub (es++t.pts.take (j+1))))):=Lib.hid (by
       rw [HE.out,E.out,List.length_append,svs_append,HSV.out]
       exact hown1)
      clear hown1 hg1
      go_wp2
      go_roundw
      case rel=>exact ⟨j+1,by omega,by go_num,Lib.hid ⟨HO3.out,hb1⟩⟩
      case measure=>simp [intOf]; omega
    ·obtain rfl : j=3:=by omega
     have hbw:=ho.out.2
     have HO : Hid (wr.ownsRow w.heap.size 25 3 u5 (nub (tpts (l.take (i+1)))).length (svs (nub (tpts (l.take (i+1)))))):=Lib.hid (by
      rw [HTK.out]
      exact ho.out.1)
     clear ho HTK
     go_wp2
     go_roundw
     case rel=>exact ⟨i+1,by omega,by go_num,HO,hbw⟩
     case measure=>simp [intOf]; omega
  ·obtain rfl : i=n:=by omega
   rw [HTE.out] at hown
   have HV : Hid (Vs wr u5 (pointsL l)):=Lib.hid (by rw [HPL.out]; exact Vs.own hown.out)
   clear hown
   go_wp2
   go_ret2
   exact ⟨_,rfl,⟨_,rfl,HV.out⟩,hb⟩
end Go.Proofs.YtbnbaokamccmjaaGreatDoor

/- garboardref12: Shells. -/
namespace Go.Proofs.YtbnbaokamccmjaaGreatDoor
open Go Go.RowKit
def bls (d : List Bool) : List Value:=d.map Value.bool
theorem bls_get {d : List Bool} {k : Nat} {q : Bool} (h : d[k]?=some q) : (bls d)[k]?=some (.bool q):=by
 unfold bls
 rw [List.getElem?_map,h]
 rfl
theorem bls_set (d : List Bool) (k : Nat) (q : Bool) : bls (d.set k q)=(bls d).set k (.bool q):=by
 unfold bls
 rw [List.map_set]
theorem bls_length (d : List Bool) : (bls d).length=d.length:=List.length_map _
theorem info_bool : (Tryz.prog.info? 4).map (fun i=>(i.zero,i.size,i.bytes))=some (some (.bool false),1,1):=by kernel_rfl
theorem make_bools (x : Int) (c : Nat) (hx : x=c) (hc : c≤10000000000000) (W : World) :
  (Instr.makeSlice 119 (.int .i64 x) (.int .i64 x)).run Tryz.prog W=.ok (.slice (some ⟨W.heap.size,0,none⟩) c c) (W.alloc (.cells (madeCells #[.bool false] c) 4)):=by
 subst hx
 obtain ⟨i0,hi,hzz⟩:=Option.map_eq_some_iff.1 info_bool
 simp only [Prod.mk.injEq] at hzz
 obtain ⟨hz0,hz1,hz2⟩:=hzz
 have h:=run_make (P:=Tryz.prog) W 119 4 i0 _ Tryz.underlying119 hi hz0 .i64 .i64 c c (by omega) (by omega) (by rw [hz2]; omega) (by omega)
 rw [h,hz1]
 simp [Value.cells]
theorem made_bools (c : Nat) : (madeCells #[.bool false] c).toList=bls (List.replicate c false):=by
 unfold madeCells bls
 rw [Array.toList_map,Array.toList_range,List.map_replicate]
 refine List.ext_getElem (by simp) fun i h1 h2=>?_
 simp [Nat.mod_one]
theorem Bk.bel {w w1 : World} {b B : Nat} {vs : List Value} (h : Bk w b vs) (hB : b<B) (g : Below B w w1) : Bk w1 b vs :=
 ⟨Nat.lt_of_lt_of_le h.lt g.size,fun i v hv=>(g.cell hB).trans (h.cell i v hv),fun i=>(g.frozen (p:=⟨b,i,none⟩) hB).trans (h.free i)⟩
theorem own_far {w : World} {base sz n D k : Nat} {e : TypeId} {v u : Value} {xs : List Value} (h : w.ownsRow base e sz v n xs) (hD : D<base) : (w.setCell ⟨D,k,none⟩ u).ownsRow base e sz v n xs:=by
 refine ⟨h.1, ?_⟩
 rcases h.2 with h2 | ⟨g,cap,cur,h1,h2,h3,h4⟩
 ·exact .inl h2
 ·exact .inr ⟨g,cap,cur,h1,h2,(Below.heap_setCell _ _ _ _ (by show g≠D; omega)).trans h3,h4⟩
def leftW (w : World) (D N : Nat) : Nat:=(List.range N).countP fun j=>match w.cell? ⟨D,j,none⟩ with | some (.bool false)=>true | _=>false
theorem left_world {w : World} {D : Nat} {d : List Bool} (h : Bk w D (bls d)) : leftW w D d.length=left d:=by
 unfold leftW left
 have key : ∀ (e : List Bool) (o : Nat),(∀ j q,e[j]?=some q→w.cell? ⟨D,o+j,none⟩=some (.bool q)) →
   ((List.range' o e.length).countP fun j=>match w.cell? ⟨D,j,none⟩ with | some (.bool false)=>true | _=>false)=e.countP fun b => !b:=by
  intro e
  induction e with
  | nil=>intro o _; rfl
  | cons q e ih =>
   intro o hc
   rw [List.length_cons,List.range'_succ,List.countP_cons,List.countP_cons,ih (o+1) (fun j q hj=>by have:=hc (j+1) q (by simpa using hj); rwa [show o + (j+1)=o+1+j by omega] at this)]
   have h0:=hc 0 q rfl
   rw [Nat.add_zero] at h0
   rw [h0]
   cases q<;>rfl
 have:=key d 0 (fun j q hj=>by rw [Nat.zero_add]; exact h.cell j _ (bls_get hj))
 rw [List.range_eq_range']
 exact this
theorem left_le (d : List Bool) : left d≤d.length:=List.countP_le_length
def flag : Value→Nat | .bool true=>1 | _=>0
theorem cell_bel {X V : World} {B b o : Nat} {v : Value} (g : Below B X V) (hb : b<B) (h : X.cell? ⟨b,o,none⟩=some v) : V.cell? ⟨b,o,none⟩=some v:=(g.cell hb).trans h
structure GI (l : List TV) (d d2 : List Bool) (i : Nat) (sh : List SV) (D B : Nat) (v : Value) (w : World) : Prop where
 grw : Grw l d d2 i sh
 bk : Bk w D (bls d2)
 own : w.ownsRow B 25 3 v sh.length (svs sh)
 len : sh.length+3 * left d2≤3 * l.length
theorem GI.under {l : List TV} {d d2 : List Bool} {i D B : Nat} {sh : List SV} {v : Value} {w w1 : World} (h : GI l d d2 i sh D B v w) (g : Below w.heap.size w w1) : GI l d d2 i sh D B v w1 :=
 ⟨h.grw,h.bk.below g,own_below h.own g,h.len⟩
set_option maxHeartbeats 1000000 in
theorem rShells_bad (v : Value) (l : List TV) (z : Int) (w : World) (hv : Ts w v l) (hs : tle l 10000000) (hz : chkC l=z) (h0 : z≠0) :
  Calls Tryz.prog 38 #[v] w fun e w'=>e=.returned (.tuple #[.int .i64 0,.int .i64 z])∧Below w.heap.size w w':=by
 have H:=Lib.hid (fun w hv=>rCheck_walk v l w hv hs)
 rw [hz] at H
 obtain ⟨A,cap,rfl,hn,hc,hcell⟩:=hv.open
 clear hcell hn hc hs hz
 go_enter Tryz.func38,Tryz.ntmps38
 go_wp2_with fail
 refine (H.out _ (hv.below bel)).mono ?_
 rintro e w1 ⟨rfl,g1⟩
 have B1:=bn (w:=w) bel g1
 clear g1
 go_wp2
 go_ret2
 exact ⟨rfl,bel⟩
set_option maxHeartbeats 8000000 in
set_option maxRecDepth 100000 in
theorem rShells_ok (v : Value) (l : List TV) (w : World) (hv : Ts w v l) (hs : tle l 10000000) (hz : chkC l=0) :
  Calls Tryz.prog 38 #[v] w fun e w'=>e=.returned (.tuple #[.int .i64 (shellsL l : Nat),.int .i64 0])∧Below w.heap.size w w':=by
 have H:=Lib.hid (fun w hv=>rCheck_walk v l w hv hs)
 rw [hz] at H
 have hm:=chkC_zero hz
 have HVV:=Lib.hid hv
 obtain ⟨A,cap,rfl,hn,hc,hcell⟩:=hv.open
 have HCL:=Lib.hid hcell
 obtain ⟨N,hn0⟩ : ∃ N,N=l.length:=⟨_,rfl⟩
 have HG:=Lib.hid (fun k (hk : k<N)=>(show ∃ t,l[k]?=some t from ⟨_,List.getElem?_eq_getElem (by rw [← hn0]; exact hk)⟩))
 have HGN:=Lib.hid (fun k t (h : l[k]?=some t)=>(show k<N from by rw [hn0]; exact (List.getElem?_eq_some_iff.1 h).1))
 have hm2 : N≤512:=by omega
 have HN:=Lib.hid hn0
 rw [← hn0] at hn H HCL HVV ⊢
 clear hn0 hv hcell hs hz hm
 have hmk:=fun W=>make_bools (N : Int) N rfl (by omega) W
 go_enter Tryz.func38,Tryz.ntmps38
 go_wp2_with fail
 refine (H.out _ (HVV.out.below bel)).mono ?_
 rintro e w1 ⟨rfl,g1⟩
 have B1:=bn (w:=w) bel g1
 clear g1
 go_wp2
 obtain ⟨W1,hW1⟩ : ∃ W,W=w1.alloc (.cells (madeCells #[.bool false] N) 4):=⟨_,rfl⟩
 have BD : Bk W1 w1.heap.size (bls (List.replicate N false)):=by
  rw [hW1,← made_bools]
  exact bk_new _ _ _
 have BW : Below w.heap.size w W1:=by rw [hW1]; exact ba B1
 have hDw:=B1.size
 rw [← hW1]
 clear hW1 hmk
 have hDW:=BD.lt
 generalize w1.heap.size=D at *
 clear B1
 have HS0 : Hid (Shd l (List.replicate N false) 0):=Lib.hid (by rw [HN.out]; exact Shd.start l)
 have HBD:=Lib.hid BD
 clear BD
 go_loopw [5,7] (fun nv ii wr=>∃ i c : Nat,∃ d,i≤N∧ii=.int .i64 i∧nv=.int .i64 c∧c≤i∧Hid (Shd l d c∧(∀ j,j<i→d[j]?=some true)∧Bk wr D (bls d))∧Below w.heap.size w wr∧W1.heap.size≤wr.heap.size) (fun _ ii _=>N - (intOf ii).toNat)
 case atStart=>exact ⟨0,0,_,Nat.zero_le _,rfl,rfl,Nat.le_refl _,Lib.hid ⟨HS0.out,fun j hj=>by omega,HBD.out⟩,BW,Nat.le_refl _⟩
 case round =>
  obtain ⟨i,c,d,hi,rfl,rfl,hci,hI,hb,hsz⟩:=hrel
  by_cases hlt : i<N
  ·obtain ⟨t0,hg0⟩:=HG.out i hlt
   have HG0:=Lib.hid hg0
   obtain ⟨q0,hq0⟩ : ∃ q,d[i]?=some q:=⟨_,List.getElem?_eq_getElem (by rw [hI.out.1.len,← HN.out]; exact hlt)⟩
   have HQ0:=Lib.hid hq0
   have e0:=hI.out.2.2.cell i _ (bls_get hq0)
   have hi0 : (0 : Int)≤(i : Int):=by omega
   have hin : (i : Int)<(N : Int):=by omega
   clear hq0 hg0
   cases q0
   case true =>
    go_wp2
    go_roundw
    case rel=>exact ⟨i+1,c,d,by omega,by go_num,rfl,by omega,Lib.hid ⟨hI.out.1,fun j hj=>by
     by_cases e : j=i
     ·rw [e]; exact HQ0.out
     ·exact hI.out.2.1 j (by omega),hI.out.2.2⟩,hb,hsz⟩
    case measure=>simp [intOf]; omega
   case false =>
    have hcw : IntKind.i64.wrap ((c : Int)+1)=(c : Int)+1:=by rw [IntKind.wrap_i64]; omega
    have HST : Hid (GI l d d i [] D W1.heap.size (.slice none 0 0) wr):=Lib.hid ⟨Grw.start hI.out.1.len i,hI.out.2.2,World.ownsRow_nil _ _ _ _,by
     have:=left_le d
     rw [hI.out.1.len] at this
     simp only [List.length_nil]
     omega⟩
    obtain ⟨W2,hW2⟩ : ∃ x,x=wr:=⟨_,rfl⟩
    subst hW2
    go_wp2
    go_loopw [8,9] (fun sv gv wr=>∃ (g : Bool) (d1 : List Bool) (sh : List SV),gv=.bool g∧Hid (GI l d d1 i sh D W1.heap.size sv wr∧(g=false→∀ k t,i≤k→l[k]?=some t→d1[k]?=some true∨(k≠i∧t.a ∉ sh∧t.b ∉ sh∧t.c ∉ sh)))∧Below w.heap.size w wr∧W1.heap.size≤wr.heap.size) (fun _ gv wr=>leftW wr D N+flag gv)
    case atStart=>exact ⟨true,d,[],rfl,Lib.hid ⟨HST.out,fun h=>by cases h⟩,hb,hsz⟩
    case round =>
     obtain ⟨g,d1,sh1,rfl,hI1,hb1,hsz1⟩:=hrel
     obtain ⟨As,caps,rfl⟩:=own_sl hI1.out.1.own
     cases g
     case false =>
      have HD:=Lib.hid (hI1.out.1.grw.done hI.out.1 hI.out.2.1 HQ0.out HG0.out (hI1.out.2 rfl))
      have HK1:=Lib.hid hI1.out.1.bk
      clear hI1 HST
      go_wp2
      go_roundw
      case rel=>exact ⟨i+1,c+1,d1,by omega,by go_num,by go_num,by omega,Lib.hid ⟨HD.out.1,HD.out.2,HK1.out⟩,hb1,hsz1⟩
      case measure=>simp [intOf]; omega
     case true =>
      have HI1:=Lib.hid hI1.out.1
      have HM : Hid (leftW wr D N=left d1):=Lib.hid (by
       have:=left_world hI1.out.1.bk
       rw [hI1.out.1.grw.len,← HN.out] at this
       exact this)
      clear hI1 HST
      obtain ⟨W3,hW3⟩ : ∃ x,x=wr:=⟨_,rfl⟩
      subst hW3
      go_wp2
      go_loopw [8,9,10] (fun sv gv kv wr=>∃ (k : Nat) (g : Bool) (d2 : List Bool) (sh : List SV),i≤k∧k≤N∧kv=.int .i64 k∧gv=.bool g∧Hid (GI l d d2 i sh D W1.heap.size sv wr∧(g=false→∀ j t,i≤j→j<k→l[j]?=some t→d2[j]?=some true∨(j≠i∧t.a ∉ sh∧t.b ∉ sh∧t.c ∉ sh))∧left d2 + (if g=true then 1 else 0)≤left d1)∧Below w.heap.size w wr∧W1.heap.size≤wr.heap.size) (fun _ _ kv _=>N - (intOf kv).toNat)
      case atStart=>exact ⟨i,false,d1,sh1,Nat.le_refl _,by omega,rfl,rfl,Lib.hid ⟨HI1.out,fun _ j t h1 h2=>by omega,by simp⟩,hb1,hsz1⟩
      case round =>
       obtain ⟨k,g,d2,sh,hik,hkN,rfl,rfl,hI2,hb2,hsz2⟩:=hrel
       obtain ⟨A2,cap2,rfl⟩:=own_sl hI2.out.1.own
       by_cases hlt2 : k<N
       ·obtain ⟨t,hg⟩:=HG.out k hlt2
        obtain ⟨b,off,rfl,hcl⟩:=HCL.out (by omega)
        have HCW:=Lib.hid (ts_nine (hcl _ _ hg))
        obtain ⟨q,hq⟩ : ∃ q,d2[k]?=some q:=⟨_,List.getElem?_eq_getElem (by rw [hI2.out.1.grw.len,← HN.out]; exact hlt2)⟩
        have HQ:=Lib.hid hq
        have HGK:=Lib.hid hg
        have e0:=hI2.out.1.bk.cell k _ (bls_get hq)
        have f0:=hI2.out.1.bk.free k
        have hk0 : (0 : Int)≤(k : Int):=by omega
        have hkn : (k : Int)<(N : Int):=by omega
        have HF:=Lib.hid (fun s W (hv : Vs W (.slice A2 sh.length cap2) sh)=>rhas_walk _ sh s W hv)
        have HVS:=Lib.hid (Vs.own hI2.out.1.own)
        have HSV : Hid (svs [t.a,t.b,t.c]=[.string t.a.x,.string t.a.y,.string t.a.z,.string t.b.x,.string t.b.y,.string t.b.z,.string t.c.x,.string t.c.y,.string t.c.z]):=Lib.hid rfl
        have HFa:=Lib.hid (fun W hv=>HF.out t.a W hv)
        have HFb:=Lib.hid (fun W hv=>HF.out t.b W hv)
        have HFc:=Lib.hid (fun W hv=>HF.out t.c W hv)
        unfold SV.val at HFa HFb HFc
        clear hq hg hcl HF
        have HXA : Hid (decide (t.a ∈ sh)=true↔t.a ∈ sh):=Lib.hid (by simp)
        have HXB : Hid (decide (t.b ∈ sh)=true↔t.b ∈ sh):=Lib.hid (by simp)
        have HXC : Hid (decide (t.c ∈ sh)=true↔t.c ∈ sh):=Lib.hid (by simp)
        generalize decide (t.a ∈ sh)=ra at *
        generalize decide (t.b ∈ sh)=rb at *
        generalize decide (t.c ∈ sh)=rc at *
        have HPA:=Lib.hid (And.intro HXA.out (And.intro HXB.out HXC.out))
        clear HXA HXB HXC
        generalize t.a.x=x0 at *
        generalize t.a.y=x1 at *
        generalize t.a.z=x2 at *
        generalize t.b.x=x3 at *
        generalize t.b.y=x4 at *
        generalize t.b.z=x5 at *
        generalize t.c.x=x6 at *
        generalize t.c.y=x7 at *
        generalize t.c.z=x8 at *
        go_upto_region 18 with fail
        go_cut [75] (fun s75 wx=>∃ r : Bool,s75=.bool r∧Hid (r=(!q && (decide (k=i) || ra || rb || rc)))∧Below wr.heap.size wr wx)
        case first =>
         obtain ⟨⟨c0,c1,c2,c3,c4,c5,c6,c7,c8⟩, -⟩:=And.intro HCW.out trivial
         have c0:=cell_below hb2 c0
         have c1:=cell_below hb2 c1
         have c2:=cell_below hb2 c2
         have c3:=cell_below hb2 c3
         have c4:=cell_below hb2 c4
         have c5:=cell_below hb2 c5
         have c6:=cell_below hb2 c6
         have c7:=cell_below hb2 c7
         have c8:=cell_below hb2 c8
         cases q
         case true =>
          go_wp2
          go_meet
          exact ⟨false,rfl,Lib.hid rfl,Below.refl _ _⟩
         case false =>
          by_cases hki : k=i
          ·subst hki
           go_wp2
           go_meet
           exact ⟨true,rfl,Lib.hid (by simp),Below.refl _ _⟩
          ·have hne : ((k : Int) == (i : Int))=false:=by rw [beq_eq_false_iff_ne]; omega
           have HD : Hid (decide (k=i)=false):=Lib.hid (decide_eq_false hki)
           clear hki f0
           go_wp2_with fail
           refine (HFa.out _ (HVS.out.below bel)).mono ?_
           rintro e w5 ⟨rfl,g5⟩
           have b5 : Below wr.heap.size wr w5:=bn (br _) g5
           have c3:=cell_below g5 c3
           have c4:=cell_below g5 c4
           have c5:=cell_below g5 c5
           have c6:=cell_below g5 c6
           have c7:=cell_below g5 c7
           have c8:=cell_below g5 c8
           clear g5
           cases ra
           case true =>
            go_wp2
            go_meet
            exact ⟨true,rfl,Lib.hid (by rw [HD.out]; simp),b5⟩
           case false =>
            go_wp2_with fail
            refine (HFb.out _ (HVS.out.below b5)).mono ?_
            rintro e w6 ⟨rfl,g6⟩
            have b6 : Below wr.heap.size wr w6:=bn b5 g6
            have c6:=cell_below g6 c6
            have c7:=cell_below g6 c7
            have c8:=cell_below g6 c8
            clear g6
            cases rb
            case true =>
             go_wp2
             go_meet
             exact ⟨true,rfl,Lib.hid (by rw [HD.out]; simp),b6⟩
            case false =>
             go_wp2_with fail
             refine (HFc.out _ (HVS.out.below b6)).mono ?_
             rintro e w7 ⟨rfl,g7⟩
             have b7 : Below wr.heap.size wr w7:=bn b6 g7
             clear g7
             cases rc
             case true =>
              go_wp2
              go_meet
              exact ⟨true,rfl,Lib.hid (by rw [HD.out]; simp),b7⟩
             case false =>
              go_wp2
              go_meet
              exact ⟨false,rfl,Lib.hid (by rw [HD.out]; rfl),b7⟩
        case rest =>
         obtain ⟨r,rfl,hr,hbc⟩:=hcut
         have hbw : Below w.heap.size w wc:=bn hb2 hbc
         have hszc : W1.heap.size≤wc.heap.size:=Nat.le_trans hsz2 hbc.size
         have HI3:=Lib.hid (hI2.out.1.under hbc)
         have HLF:=Lib.hid hI2.out.2.2
         cases r
         case false =>
          have HNX : Hid (g=false→∀ j u,i≤j→j<k+1→l[j]?=some u→d2[j]?=some true∨(j≠i∧u.a ∉ sh∧u.b ∉ sh∧u.c ∉ sh)):=Lib.hid (fun hgf j u h1 h2 h3=>by
           by_cases e : j=k
           ·subst e
            rw [HGK.out] at h3
            cases h3
            have h5:=hr.out
            obtain ⟨pa,pb,pc⟩:=HPA.out
            cases q
            ·right
             simp only [Bool.not_false,Bool.true_and] at h5
             have h6:=h5.symm
             simp only [Bool.or_eq_false_iff,decide_eq_false_iff_not] at h6
             obtain ⟨⟨⟨n1,n2⟩,n3⟩,n4⟩:=h6
             refine ⟨n1,fun h=>?_,fun h=>?_,fun h=>?_⟩
             ·rw [pa.2 h] at n2; cases n2
             ·rw [pb.2 h] at n3; cases n3
             ·rw [pc.2 h] at n4; cases n4
            ·left; exact HQ.out
           ·exact hI2.out.2.1 hgf j u h1 (by omega) h3)
          clear hI2 hr HPA HFa HFb HFc HVS e0 f0
          go_wp2
          go_roundw
          case rel=>exact ⟨k+1,g,d2,sh,by omega,by omega,by go_num,rfl,Lib.hid ⟨HI3.out,HNX.out,HLF.out⟩,hbw,hszc⟩
          case measure=>simp [intOf]; omega
         case true =>
          have h5:=hr.out
          cases q
          case true=>simp at h5
          case false =>
           have HGR:=Lib.hid (HI3.out.grw.grow HGK.out HQ.out (by
            obtain ⟨pa,pb,pc⟩:=HPA.out
            simp only [Bool.not_false,Bool.true_and] at h5
            have h6:=h5.symm
            simp only [Bool.or_eq_true,decide_eq_true_eq] at h6
            rcases h6 with ((h6 | h6) | h6) | h6
            ·exact .inl h6
            ·exact .inr (.inl (pa.1 h6))
            ·exact .inr (.inr (.inl (pb.1 h6)))
            ·exact .inr (.inr (.inr (pc.1 h6)))))
           have HLS:=Lib.hid (left_set HQ.out)
           have e0:=cell_below hbc e0
           have f0:=HI3.out.bk.free k
           have hlen : sh.length≤1600:=by have:=HI3.out.len; rw [← HN.out] at this; omega
           have hkd : k<(bls d2).length:=by rw [bls_length,HI3.out.grw.len,← HN.out]; exact hlt2
           clear h5 hr HPA HFa HFb HFc HVS hI2
           go_wp2_with fail
           obtain ⟨X,hX⟩ : ∃ X,X=wc.setCell ⟨D,k,none⟩ (.bool true):=⟨_,rfl⟩
           have KX : Bk X D (bls (d2.set k true)):=by rw [hX,bls_set]; exact HI3.out.bk.set k hkd _
           have OX : X.ownsRow W1.heap.size 25 3 (.slice A2 sh.length cap2) sh.length (svs sh):=by rw [hX]; exact own_far HI3.out.own hDW
           have BX : Below w.heap.size w X:=by rw [hX]; exact bs hbw (by show w.heap.size≤D; omega)
           have hzX : W1.heap.size≤X.heap.size:=by rw [hX]; simpa using hszc
           rw [← hX]
           clear hX e0 f0
           have HKX:=Lib.hid KX
           have HOX:=Lib.hid OX
           have HLN:=Lib.hid HI3.out.len
           clear KX OX HI3
           obtain ⟨⟨c0,c1,c2,c3,c4,c5,c6,c7,c8⟩, -⟩:=And.intro HCW.out trivial
           have hbw0 : b<W1.heap.size:=Nat.lt_of_lt_of_le (World.block_lt_of_cell? w _ c0) BW.size
           have c0:=cell_below BX c0
           have c1:=cell_below BX c1
           have c2:=cell_below BX c2
           have c3:=cell_below BX c3
           have c4:=cell_below BX c4
           have c5:=cell_below BX c5
           have c6:=cell_below BX c6
           have c7:=cell_below BX c7
           have c8:=cell_below BX c8
           go_region_held3 (fun w'=>w'.cell? ⟨b,off+k * 9,none⟩=some (.string x0)∧w'.cell? ⟨b,off+k * 9+1,none⟩=some (.string x1)∧w'.cell? ⟨b,off+k * 9+2,none⟩=some (.string x2)∧w'.cell? ⟨b,off+k * 9+3,none⟩=some (.string x3)∧w'.cell? ⟨b,off+k * 9+4,none⟩=some (.string x4)∧w'.cell? ⟨b,off+k * 9+5,none⟩=some (.string x5)∧w'.cell? ⟨b,off+k * 9+6,none⟩=some (.string x6)∧w'.cell? ⟨b,off+k * 9+7,none⟩=some (.string x7)∧w'.cell? ⟨b,off+k * 9+8,none⟩=some (.string x8)∧Below W1.heap.size X w')
            ((refine (fun (hb : Below W1.heap.size X _)=>⟨cell_bel hb hbw0 c0,cell_bel hb hbw0 c1,cell_bel hb hbw0 c2,cell_bel hb hbw0 c3,cell_bel hb hbw0 c4,cell_bel hb hbw0 c5,cell_bel hb hbw0 c6,cell_bel hb hbw0 c7,cell_bel hb hbw0 c8,hb⟩) ?_; go_split_ands; repeat (first | with_reducible assumption | exact Below.refl _ _ | refine Below.drew ?_ | (refine Below.alloc ?_ (by (try simp)<;>omega) _))))
            ((refine step_append_box (w0:=X) W1.heap.size (by rfl) (.tmp 79) (.tmp 95) 22 25 _ 3 48 (by rfl) Tryz.underlying22 info_vec rfl (by omega) (by omega) _ sh.length 3 (svs sh) [.string x0,.string x1,.string x2,.string x3,.string x4,.string x5,.string x6,.string x7,.string x8] (by rfl) X.heap.size (by rfl) (by omega) (by rfl) (by simp [Value.oneCell']) (by first | exact (HOX.out.alloc _).drew | exact HOX.out.drew.alloc _) (by first | exact box_drew (box_at _ _ rfl) | exact box_at _ _ rfl) (by repeat (first | exact Below.refl _ _ | refine Below.drew ?_ | (refine Below.alloc ?_ (by (try simp)<;>omega) _))) (by (try simp)<;>omega) (by omega) ?_; intro v1 w8 hown1 hb8 hg8))
           have HNEW : Hid (GI l d (d2.set k true) i (sh++[t.a,t.b,t.c]) D W1.heap.size v1 w8):=Lib.hid ⟨HGR.out,HKX.out.bel hDW hb8,by
            rw [List.length_append,svs_append,HSV.out]
            exact hown1,by
            have h1:=HLN.out
            have h2:=HLS.out
            rw [List.length_append]
            simp only [List.length_cons,List.length_nil]
            omega⟩
           have HL2 : Hid (left (d2.set k true)+1≤left d1):=Lib.hid (by have h1:=HLF.out; have h2:=HLS.out; omega)
           have hb9 : Below w.heap.size w w8:=BX.trans (hb8.mono BW.size)
           have hz9 : W1.heap.size≤w8.heap.size:=Nat.le_trans hzX hb8.size
           clear hown1 hg8 hb8 HGR HLN HLS HLF HKX HOX c0 c1 c2 c3 c4 c5 c6 c7 c8
           go_wp2
           go_roundw
           case rel=>exact ⟨k+1,true,_,_,by omega,by omega,by go_num,rfl,Lib.hid ⟨HNEW.out,fun h=>by (cases h),HL2.out⟩,hb9,hz9⟩
           case measure=>simp [intOf]; omega
       ·obtain rfl : k=N:=by omega
        have HNQ : Hid (g=false→∀ j u,i≤j→l[j]?=some u→d2[j]?=some true∨(j≠i∧u.a ∉ sh∧u.b ∉ sh∧u.c ∉ sh)):=Lib.hid (fun hgf j u h1 h3=>hI2.out.2.1 hgf j u h1 (HGN.out j u h3) h3)
        have HI3:=Lib.hid hI2.out.1
        have HMN : Hid (leftW wr D k=left d2):=Lib.hid (by
         have:=left_world hI2.out.1.bk
         rw [hI2.out.1.grw.len,← HN.out] at this
         exact this)
        have HLF:=Lib.hid hI2.out.2.2
        clear hI2
        go_wp2
        go_roundw
        case rel=>exact ⟨g,d2,sh,rfl,Lib.hid ⟨HI3.out,HNQ.out⟩,hb2,hsz2⟩
        case measure =>
         rw [HMN.out,HM.out]
         have h1:=HLF.out
         cases g<;>simp [flag] at h1 ⊢<;>omega
  ·obtain rfl : i=N:=by omega
   have E:=Lib.hid (hI.out.1.all (fun j hj=>hI.out.2.1 j (by rw [HN.out]; exact hj)))
   clear hI
   go_wp2
   go_ret2
   exact ⟨by rw [E.out]; rfl,hb⟩
end Go.Proofs.YtbnbaokamccmjaaGreatDoor

/- garboardref11: Outer, Inner, Height, Zero. -/
namespace Go.Proofs.YtbnbaokamccmjaaGreatDoor
open Go Go.RowKit
set_option maxRecDepth 100000 in
set_option maxHeartbeats 4000000 in
theorem wOuter_walk (ux uy : Value) (x : V3) (y : V3) (w : World) (hx : Vn w ux x) (hy : Vn w uy y) (bbx : x.le 1000000) (bby : y.le 1000000) :
  Calls Tryz.prog 116 #[ux,uy] w (Ret fun v' w'=>Vn w' v' (x.cross y)∧Below w.heap.size w w'):=by
 obtain ⟨Pxx,pxx,Dxx,dxx,Pxy,pxy,Dxy,dxy,Pxz,pxz,Dxz,dxz,hzx,hxx,hxy,hxz⟩:=hx.open
 subst hzx
 clear hx
 obtain ⟨txx,txy,txz⟩:=bbx
 obtain ⟨sxx,esxx⟩ : ∃ b,b=decide (x.x.num<0):=⟨_,rfl⟩
 rw [← esxx] at hxx ⊢
 clear esxx
 obtain ⟨sxy,esxy⟩ : ∃ b,b=decide (x.y.num<0):=⟨_,rfl⟩
 rw [← esxy] at hxy ⊢
 clear esxy
 obtain ⟨sxz,esxz⟩ : ∃ b,b=decide (x.z.num<0):=⟨_,rfl⟩
 rw [← esxz] at hxz ⊢
 clear esxz
 obtain ⟨Pyx,pyx,Dyx,dyx,Pyy,pyy,Dyy,dyy,Pyz,pyz,Dyz,dyz,hzy,hyx,hyy,hyz⟩:=hy.open
 subst hzy
 clear hy
 obtain ⟨tyx,tyy,tyz⟩:=bby
 obtain ⟨syx,esyx⟩ : ∃ b,b=decide (y.x.num<0):=⟨_,rfl⟩
 rw [← esyx] at hyx ⊢
 clear esyx
 obtain ⟨syy,esyy⟩ : ∃ b,b=decide (y.y.num<0):=⟨_,rfl⟩
 rw [← esyy] at hyy ⊢
 clear esyy
 obtain ⟨syz,esyz⟩ : ∃ b,b=decide (y.z.num<0):=⟨_,rfl⟩
 rw [← esyz] at hyz ⊢
 clear esyz
 have z0 : rz (x.y * y.z)≤2000000:=rz_mul_le txy tyz (by omega)
 have z1 : rz (x.z * y.y)≤2000000:=rz_mul_le txz tyy (by omega)
 have z2 : rz ((x.y * y.z) - (x.z * y.y))≤4000001:=rz_sub_le z0 z1 (by omega)
 have z3 : rz (x.z * y.x)≤2000000:=rz_mul_le txz tyx (by omega)
 have z4 : rz (x.x * y.z)≤2000000:=rz_mul_le txx tyz (by omega)
 have z5 : rz ((x.z * y.x) - (x.x * y.z))≤4000001:=rz_sub_le z3 z4 (by omega)
 have z6 : rz (x.x * y.y)≤2000000:=rz_mul_le txx tyy (by omega)
 have z7 : rz (x.y * y.x)≤2000000:=rz_mul_le txy tyx (by omega)
 have z8 : rz ((x.x * y.y) - (x.y * y.x))≤4000001:=rz_sub_le z6 z7 (by omega)
 have HC0 : Hid (∀ u v W,Qn W u x.y→Qn W v y.z→Calls Tryz.prog 152 #[u,v] W (Ret fun v' w'=>Qn w' v' (x.y * y.z)∧Below W.heap.size W w')):=Lib.hid (fun u v W h g=>qMul_walk u v _ _ W h g (Nat.le_trans txy (by omega)) (Nat.le_trans tyz (by omega)))
 have HC1 : Hid (∀ u v W,Qn W u x.z→Qn W v y.y→Calls Tryz.prog 152 #[u,v] W (Ret fun v' w'=>Qn w' v' (x.z * y.y)∧Below W.heap.size W w')):=Lib.hid (fun u v W h g=>qMul_walk u v _ _ W h g (Nat.le_trans txz (by omega)) (Nat.le_trans tyy (by omega)))
 have HC2 : Hid (∀ u v W,Qn W u (x.y * y.z)→Qn W v (x.z * y.y)→Calls Tryz.prog 98 #[u,v] W (Ret fun v' w'=>Qn w' v' ((x.y * y.z) - (x.z * y.y))∧Below W.heap.size W w')):=Lib.hid (fun u v W h g=>qSub_walk u v _ _ W h g (Nat.le_trans z0 (by omega)) (Nat.le_trans z1 (by omega)))
 have HC3 : Hid (∀ u v W,Qn W u x.z→Qn W v y.x→Calls Tryz.prog 152 #[u,v] W (Ret fun v' w'=>Qn w' v' (x.z * y.x)∧Below W.heap.size W w')):=Lib.hid (fun u v W h g=>qMul_walk u v _ _ W h g (Nat.le_trans txz (by omega)) (Nat.le_trans tyx (by omega)))
 have HC4 : Hid (∀ u v W,Qn W u x.x→Qn W v y.z→Calls Tryz.prog 152 #[u,v] W (Ret fun v' w'=>Qn w' v' (x.x * y.z)∧Below W.heap.size W w')):=Lib.hid (fun u v W h g=>qMul_walk u v _ _ W h g (Nat.le_trans txx (by omega)) (Nat.le_trans tyz (by omega)))
 have HC5 : Hid (∀ u v W,Qn W u (x.z * y.x)→Qn W v (x.x * y.z)→Calls Tryz.prog 98 #[u,v] W (Ret fun v' w'=>Qn w' v' ((x.z * y.x) - (x.x * y.z))∧Below W.heap.size W w')):=Lib.hid (fun u v W h g=>qSub_walk u v _ _ W h g (Nat.le_trans z3 (by omega)) (Nat.le_trans z4 (by omega)))
 have HC6 : Hid (∀ u v W,Qn W u x.x→Qn W v y.y→Calls Tryz.prog 152 #[u,v] W (Ret fun v' w'=>Qn w' v' (x.x * y.y)∧Below W.heap.size W w')):=Lib.hid (fun u v W h g=>qMul_walk u v _ _ W h g (Nat.le_trans txx (by omega)) (Nat.le_trans tyy (by omega)))
 have HC7 : Hid (∀ u v W,Qn W u x.y→Qn W v y.x→Calls Tryz.prog 152 #[u,v] W (Ret fun v' w'=>Qn w' v' (x.y * y.x)∧Below W.heap.size W w')):=Lib.hid (fun u v W h g=>qMul_walk u v _ _ W h g (Nat.le_trans txy (by omega)) (Nat.le_trans tyx (by omega)))
 have HC8 : Hid (∀ u v W,Qn W u (x.x * y.y)→Qn W v (x.y * y.x)→Calls Tryz.prog 98 #[u,v] W (Ret fun v' w'=>Qn w' v' ((x.x * y.y) - (x.y * y.x))∧Below W.heap.size W w')):=Lib.hid (fun u v W h g=>qSub_walk u v _ _ W h g (Nat.le_trans z6 (by omega)) (Nat.le_trans z7 (by omega)))
 have hres : (x.cross y)=⟨((x.y * y.z) - (x.z * y.y)),((x.z * y.x) - (x.x * y.z)),((x.x * y.y) - (x.y * y.x))⟩:=rfl
 rw [hres]
 clear hres
 clear z8 z7 z6 z5 z4 z3 z2 z1 z0 txx txy txz tyx tyy tyz
 generalize ((x.x * y.y) - (x.y * y.x))=q8 at *
 generalize (x.y * y.x)=q7 at *
 generalize (x.x * y.y)=q6 at *
 generalize ((x.z * y.x) - (x.x * y.z))=q5 at *
 generalize (x.x * y.z)=q4 at *
 generalize (x.z * y.x)=q3 at *
 generalize ((x.y * y.z) - (x.z * y.y))=q2 at *
 generalize (x.z * y.y)=q1 at *
 generalize (x.y * y.z)=q0 at *
 go_enter Tryz.func116,Tryz.ntmps116
 go_wp2
 have BKx : Bk (((w.alloc (.cells #[.bool sxx,.slice Pxx (wds x.x.num.natAbs).length pxx,.slice Dxx (wds x.x.den).length dxx,.bool sxy,.slice Pxy (wds x.y.num.natAbs).length pxy,.slice Dxy (wds x.y.den).length dxy,.bool sxz,.slice Pxz (wds x.z.num.natAbs).length pxz,.slice Dxz (wds x.z.den).length dxz] 86)).alloc (.cells #[.bool syx,.slice Pyx (wds y.x.num.natAbs).length pyx,.slice Dyx (wds y.x.den).length dyx,.bool syy,.slice Pyy (wds y.y.num.natAbs).length pyy,.slice Dyy (wds y.y.den).length dyy,.bool syz,.slice Pyz (wds y.z.num.natAbs).length pyz,.slice Dyz (wds y.z.den).length dyz] 86)).alloc (.cells #[.bool false,.slice none 0 0,.slice none 0 0,.bool false,.slice none 0 0,.slice none 0 0,.bool false,.slice none 0 0,.slice none 0 0] 86)) (w.heap.size) [.bool sxx,.slice Pxx (wds x.x.num.natAbs).length pxx,.slice Dxx (wds x.x.den).length dxx,.bool sxy,.slice Pxy (wds x.y.num.natAbs).length pxy,.slice Dxy (wds x.y.den).length dxy,.bool sxz,.slice Pxz (wds x.z.num.natAbs).length pxz,.slice Dxz (wds x.z.den).length dxz]:=bkk
 have BKy : Bk (((w.alloc (.cells #[.bool sxx,.slice Pxx (wds x.x.num.natAbs).length pxx,.slice Dxx (wds x.x.den).length dxx,.bool sxy,.slice Pxy (wds x.y.num.natAbs).length pxy,.slice Dxy (wds x.y.den).length dxy,.bool sxz,.slice Pxz (wds x.z.num.natAbs).length pxz,.slice Dxz (wds x.z.den).length dxz] 86)).alloc (.cells #[.bool syx,.slice Pyx (wds y.x.num.natAbs).length pyx,.slice Dyx (wds y.x.den).length dyx,.bool syy,.slice Pyy (wds y.y.num.natAbs).length pyy,.slice Dyy (wds y.y.den).length dyy,.bool syz,.slice Pyz (wds y.z.num.natAbs).length pyz,.slice Dyz (wds y.z.den).length dyz] 86)).alloc (.cells #[.bool false,.slice none 0 0,.slice none 0 0,.bool false,.slice none 0 0,.slice none 0 0,.bool false,.slice none 0 0,.slice none 0 0] 86)) (w.heap.size+1) [.bool syx,.slice Pyx (wds y.x.num.natAbs).length pyx,.slice Dyx (wds y.x.den).length dyx,.bool syy,.slice Pyy (wds y.y.num.natAbs).length pyy,.slice Dyy (wds y.y.den).length dyy,.bool syz,.slice Pyz (wds y.z.num.natAbs).length pyz,.slice Dyz (wds y.z.den).length dyz]:=bkk
 have BZ : Bk (((w.alloc (.cells #[.bool sxx,.slice Pxx (wds x.x.num.natAbs).length pxx,.slice Dxx (wds x.x.den).length dxx,.bool sxy,.slice Pxy (wds x.y.num.natAbs).length pxy,.slice Dxy (wds x.y.den).length dxy,.bool sxz,.slice Pxz (wds x.z.num.natAbs).length pxz,.slice Dxz (wds x.z.den).length dxz] 86)).alloc (.cells #[.bool syx,.slice Pyx (wds y.x.num.natAbs).length pyx,.slice Dyx (wds y.x.den).length dyx,.bool syy,.slice Pyy (wds y.y.num.natAbs).length pyy,.slice Dyy (wds y.y.den).length dyy,.bool syz,.slice Pyz (wds y.z.num.natAbs).length pyz,.slice Dyz (wds y.z.den).length dyz] 86)).alloc (.cells #[.bool false,.slice none 0 0,.slice none 0 0,.bool false,.slice none 0 0,.slice none 0 0,.bool false,.slice none 0 0,.slice none 0 0] 86)) (w.heap.size+1+1) [.bool false,.slice none 0 0,.slice none 0 0,.bool false,.slice none 0 0,.slice none 0 0,.bool false,.slice none 0 0,.slice none 0 0]:=bkk
 have BB : Below w.heap.size w (((w.alloc (.cells #[.bool sxx,.slice Pxx (wds x.x.num.natAbs).length pxx,.slice Dxx (wds x.x.den).length dxx,.bool sxy,.slice Pxy (wds x.y.num.natAbs).length pxy,.slice Dxy (wds x.y.den).length dxy,.bool sxz,.slice Pxz (wds x.z.num.natAbs).length pxz,.slice Dxz (wds x.z.den).length dxz] 86)).alloc (.cells #[.bool syx,.slice Pyx (wds y.x.num.natAbs).length pyx,.slice Dyx (wds y.x.den).length dyx,.bool syy,.slice Pyy (wds y.y.num.natAbs).length pyy,.slice Dyy (wds y.y.den).length dyy,.bool syz,.slice Pyz (wds y.z.num.natAbs).length pyz,.slice Dyz (wds y.z.den).length dyz] 86)).alloc (.cells #[.bool false,.slice none 0 0,.slice none 0 0,.bool false,.slice none 0 0,.slice none 0 0,.bool false,.slice none 0 0,.slice none 0 0] 86)):=bel
 generalize hWe : ((w.alloc (.cells #[.bool sxx,.slice Pxx (wds x.x.num.natAbs).length pxx,.slice Dxx (wds x.x.den).length dxx,.bool sxy,.slice Pxy (wds x.y.num.natAbs).length pxy,.slice Dxy (wds x.y.den).length dxy,.bool sxz,.slice Pxz (wds x.z.num.natAbs).length pxz,.slice Dxz (wds x.z.den).length dxz] 86)).alloc (.cells #[.bool syx,.slice Pyx (wds y.x.num.natAbs).length pyx,.slice Dyx (wds y.x.den).length dyx,.bool syy,.slice Pyy (wds y.y.num.natAbs).length pyy,.slice Dyy (wds y.y.den).length dyy,.bool syz,.slice Pyz (wds y.z.num.natAbs).length pyz,.slice Dyz (wds y.z.den).length dyz] 86)).alloc (.cells #[.bool false,.slice none 0 0,.slice none 0 0,.bool false,.slice none 0 0,.slice none 0 0,.bool false,.slice none 0 0,.slice none 0 0] 86)=W at *
 clear hWe
 obtain ⟨⟨xc0,xc1,xc2,xc3,xc4,xc5,xc6,xc7,xc8⟩, -⟩:=BKx.c9
 obtain ⟨⟨yc0,yc1,yc2,yc3,yc4,yc5,yc6,yc7,yc8⟩, -⟩:=BKy.c9
 clear BKx BKy
 refine wp_region_held_drew (S:=fun w'=>w'.cell? ⟨w.heap.size,0,none⟩=some (.bool sxx)∧w'.cell? ⟨w.heap.size,1,none⟩=some (.slice Pxx (wds x.x.num.natAbs).length pxx)∧w'.cell? ⟨w.heap.size,2,none⟩=some (.slice Dxx (wds x.x.den).length dxx)∧w'.cell? ⟨w.heap.size,3,none⟩=some (.bool sxy)∧w'.cell? ⟨w.heap.size,4,none⟩=some (.slice Pxy (wds x.y.num.natAbs).length pxy)∧w'.cell? ⟨w.heap.size,5,none⟩=some (.slice Dxy (wds x.y.den).length dxy)∧w'.cell? ⟨w.heap.size,6,none⟩=some (.bool sxz)∧w'.cell? ⟨w.heap.size,7,none⟩=some (.slice Pxz (wds x.z.num.natAbs).length pxz)∧w'.cell? ⟨w.heap.size,8,none⟩=some (.slice Dxz (wds x.z.den).length dxz)∧w'.cell? ⟨w.heap.size+1,0,none⟩=some (.bool syx)∧w'.cell? ⟨w.heap.size+1,1,none⟩=some (.slice Pyx (wds y.x.num.natAbs).length pyx)∧w'.cell? ⟨w.heap.size+1,2,none⟩=some (.slice Dyx (wds y.x.den).length dyx)∧w'.cell? ⟨w.heap.size+1,3,none⟩=some (.bool syy)∧w'.cell? ⟨w.heap.size+1,4,none⟩=some (.slice Pyy (wds y.y.num.natAbs).length pyy)∧w'.cell? ⟨w.heap.size+1,5,none⟩=some (.slice Dyy (wds y.y.den).length dyy)∧w'.cell? ⟨w.heap.size+1,6,none⟩=some (.bool syz)∧w'.cell? ⟨w.heap.size+1,7,none⟩=some (.slice Pyz (wds y.z.num.natAbs).length pyz)∧w'.cell? ⟨w.heap.size+1,8,none⟩=some (.slice Dyz (wds y.z.den).length dyz)∧Below w.heap.size w w') (by kernel_rfl) ?_ (fun hHeld=>?_)
 ·exact ⟨bc (bd (br _)) xc0,bc (bd (br _)) xc1,bc (bd (br _)) xc2,bc (bd (br _)) xc3,bc (bd (br _)) xc4,bc (bd (br _)) xc5,bc (bd (br _)) xc6,bc (bd (br _)) xc7,bc (bd (br _)) xc8,bc (bd (br _)) yc0,bc (bd (br _)) yc1,bc (bd (br _)) yc2,bc (bd (br _)) yc3,bc (bd (br _)) yc4,bc (bd (br _)) yc5,bc (bd (br _)) yc6,bc (bd (br _)) yc7,bc (bd (br _)) yc8,bd BB⟩
 refine wtk 0 (.pointer (some ⟨w.heap.size,3,none⟩)) rfl rfl (fun w' hS=>?_) hHeld ?_
 ·(try dsimp only at hS); go_split_ands; go_simp
 try simp only [Act.put,lsx]
 refine wtk 1 (.agg #[.bool sxy,.slice Pxy (wds x.y.num.natAbs).length pxy,.slice Dxy (wds x.y.den).length dxy]) rfl rfl (fun w' hS=>?_) hHeld ?_
 ·(try dsimp only at hS); go_split_ands; go_simp
 try simp only [Act.put,lsx]
 refine wtk 2 (.pointer (some ⟨w.heap.size+1,6,none⟩)) rfl rfl (fun w' hS=>?_) hHeld ?_
 ·(try dsimp only at hS); go_split_ands; go_simp
 try simp only [Act.put,lsx]
 refine wtk 3 (.agg #[.bool syz,.slice Pyz (wds y.z.num.natAbs).length pyz,.slice Dyz (wds y.z.den).length dyz]) rfl rfl (fun w' hS=>?_) hHeld ?_
 ·(try dsimp only at hS); go_split_ands; go_simp
 try simp only [Act.put,lsx]
 refine wtk 5 (.pointer (some ⟨w.heap.size,6,none⟩)) rfl rfl (fun w' hS=>?_) hHeld ?_
 ·(try dsimp only at hS); go_split_ands; go_simp
 try simp only [Act.put,lsx]
 refine wtk 6 (.agg #[.bool sxz,.slice Pxz (wds x.z.num.natAbs).length pxz,.slice Dxz (wds x.z.den).length dxz]) rfl rfl (fun w' hS=>?_) hHeld ?_
 ·(try dsimp only at hS); go_split_ands; go_simp
 try simp only [Act.put,lsx]
 refine wtk 7 (.pointer (some ⟨w.heap.size+1,3,none⟩)) rfl rfl (fun w' hS=>?_) hHeld ?_
 ·(try dsimp only at hS); go_split_ands; go_simp
 try simp only [Act.put,lsx]
 refine wtk 8 (.agg #[.bool syy,.slice Pyy (wds y.y.num.natAbs).length pyy,.slice Dyy (wds y.y.den).length dyy]) rfl rfl (fun w' hS=>?_) hHeld ?_
 ·(try dsimp only at hS); go_split_ands; go_simp
 try simp only [Act.put,lsx]
 refine wtk 11 (.pointer (some ⟨w.heap.size,6,none⟩)) rfl rfl (fun w' hS=>?_) hHeld ?_
 ·(try dsimp only at hS); go_split_ands; go_simp
 try simp only [Act.put,lsx]
 refine wtk 12 (.agg #[.bool sxz,.slice Pxz (wds x.z.num.natAbs).length pxz,.slice Dxz (wds x.z.den).length dxz]) rfl rfl (fun w' hS=>?_) hHeld ?_
 ·(try dsimp only at hS); go_split_ands; go_simp
 try simp only [Act.put,lsx]
 refine wtk 13 (.pointer (some ⟨w.heap.size+1,0,none⟩)) rfl rfl (fun w' hS=>?_) hHeld ?_
 ·(try dsimp only at hS); go_split_ands; go_simp
 try simp only [Act.put,lsx]
 refine wtk 14 (.agg #[.bool syx,.slice Pyx (wds y.x.num.natAbs).length pyx,.slice Dyx (wds y.x.den).length dyx]) rfl rfl (fun w' hS=>?_) hHeld ?_
 ·(try dsimp only at hS); go_split_ands; go_simp
 try simp only [Act.put,lsx]
 refine wtk 16 (.pointer (some ⟨w.heap.size,0,none⟩)) rfl rfl (fun w' hS=>?_) hHeld ?_
 ·(try dsimp only at hS); go_split_ands; go_simp
 try simp only [Act.put,lsx]
 refine wtk 17 (.agg #[.bool sxx,.slice Pxx (wds x.x.num.natAbs).length pxx,.slice Dxx (wds x.x.den).length dxx]) rfl rfl (fun w' hS=>?_) hHeld ?_
 ·(try dsimp only at hS); go_split_ands; go_simp
 try simp only [Act.put,lsx]
 refine wtk 18 (.pointer (some ⟨w.heap.size+1,6,none⟩)) rfl rfl (fun w' hS=>?_) hHeld ?_
 ·(try dsimp only at hS); go_split_ands; go_simp
 try simp only [Act.put,lsx]
 refine wtk 19 (.agg #[.bool syz,.slice Pyz (wds y.z.num.natAbs).length pyz,.slice Dyz (wds y.z.den).length dyz]) rfl rfl (fun w' hS=>?_) hHeld ?_
 ·(try dsimp only at hS); go_split_ands; go_simp
 try simp only [Act.put,lsx]
 refine wtk 22 (.pointer (some ⟨w.heap.size,0,none⟩)) rfl rfl (fun w' hS=>?_) hHeld ?_
 ·(try dsimp only at hS); go_split_ands; go_simp
 try simp only [Act.put,lsx]
 refine wtk 23 (.agg #[.bool sxx,.slice Pxx (wds x.x.num.natAbs).length pxx,.slice Dxx (wds x.x.den).length dxx]) rfl rfl (fun w' hS=>?_) hHeld ?_
 ·(try dsimp only at hS); go_split_ands; go_simp
 try simp only [Act.put,lsx]
 refine wtk 24 (.pointer (some ⟨w.heap.size+1,3,none⟩)) rfl rfl (fun w' hS=>?_) hHeld ?_
 ·(try dsimp only at hS); go_split_ands; go_simp
 try simp only [Act.put,lsx]
 refine wtk 25 (.agg #[.bool syy,.slice Pyy (wds y.y.num.natAbs).length pyy,.slice Dyy (wds y.y.den).length dyy]) rfl rfl (fun w' hS=>?_) hHeld ?_
 ·(try dsimp only at hS); go_split_ands; go_simp
 try simp only [Act.put,lsx]
 refine wtk 27 (.pointer (some ⟨w.heap.size,3,none⟩)) rfl rfl (fun w' hS=>?_) hHeld ?_
 ·(try dsimp only at hS); go_split_ands; go_simp
 try simp only [Act.put,lsx]
 refine wtk 28 (.agg #[.bool sxy,.slice Pxy (wds x.y.num.natAbs).length pxy,.slice Dxy (wds x.y.den).length dxy]) rfl rfl (fun w' hS=>?_) hHeld ?_
 ·(try dsimp only at hS); go_split_ands; go_simp
 try simp only [Act.put,lsx]
 refine wtk 29 (.pointer (some ⟨w.heap.size+1,0,none⟩)) rfl rfl (fun w' hS=>?_) hHeld ?_
 ·(try dsimp only at hS); go_split_ands; go_simp
 try simp only [Act.put,lsx]
 refine wtk 30 (.agg #[.bool syx,.slice Pyx (wds y.x.num.natAbs).length pyx,.slice Dyx (wds y.x.den).length dyx]) rfl rfl (fun w' hS=>?_) hHeld ?_
 ·(try dsimp only at hS); go_split_ands; go_simp
 try simp only [Act.put,lsx]
 refine wrd 4 rfl (fun K hK=>?_)
 rw [if_pos (by rfl)]
 go_wp2_with fail
 obtain ⟨s0_,s1_,s2_,s3_,s4_,s5_,s6_,s7_,s8_,s9_,s10_,s11_,s12_,s13_,s14_,s15_,s16_,s17_,s18_⟩:=hHeld
 have hL:=s18_
 have RR:=Bk.drew BZ
 refine (HC0.out _ _ _ (Qn.below hxy hL) (Qn.below hyz hL)).mono ?_
 rintro e w1 ⟨v0,rfl,r0,g⟩
 obtain ⟨A0,a0,B0,b0,hE,_⟩:=r0.open
 subst hE
 have R1:=Bk.below RR g
 refine hK.out _ _ ⟨bc g s0_,bc g s1_,bc g s2_,bc g s3_,bc g s4_,bc g s5_,bc g s6_,bc g s7_,bc g s8_,bc g s9_,bc g s10_,bc g s11_,bc g s12_,bc g s13_,bc g s14_,bc g s15_,bc g s16_,bc g s17_,bn s18_ g⟩ (fun hHeld=>?_)
 clear g hL RR s0_ s1_ s2_ s3_ s4_ s5_ s6_ s7_ s8_ s9_ s10_ s11_ s12_ s13_ s14_ s15_ s16_ s17_ s18_
 clear hK K
 try simp only [Act.put,lsx]
 refine wrd 9 rfl (fun K hK=>?_)
 rw [if_pos (by rfl)]
 go_wp2_with fail
 obtain ⟨s0_,s1_,s2_,s3_,s4_,s5_,s6_,s7_,s8_,s9_,s10_,s11_,s12_,s13_,s14_,s15_,s16_,s17_,s18_⟩:=hHeld
 have hL:=s18_
 have RR:=R1
 refine (HC1.out _ _ _ (Qn.below hxz hL) (Qn.below hyy hL)).mono ?_
 rintro e w2 ⟨v1,rfl,r1,g⟩
 obtain ⟨A1,a1,B1,b1,hE,_⟩:=r1.open
 subst hE
 have R2:=Bk.below RR g
 replace r0:=Qn.below r0 g
 refine hK.out _ _ ⟨bc g s0_,bc g s1_,bc g s2_,bc g s3_,bc g s4_,bc g s5_,bc g s6_,bc g s7_,bc g s8_,bc g s9_,bc g s10_,bc g s11_,bc g s12_,bc g s13_,bc g s14_,bc g s15_,bc g s16_,bc g s17_,bn s18_ g⟩ (fun hHeld=>?_)
 clear g hL RR s0_ s1_ s2_ s3_ s4_ s5_ s6_ s7_ s8_ s9_ s10_ s11_ s12_ s13_ s14_ s15_ s16_ s17_ s18_
 clear hK K
 try simp only [Act.put,lsx]
 refine wrd 10 rfl (fun K hK=>?_)
 rw [if_pos (by rfl)]
 go_wp2_with fail
 obtain ⟨s0_,s1_,s2_,s3_,s4_,s5_,s6_,s7_,s8_,s9_,s10_,s11_,s12_,s13_,s14_,s15_,s16_,s17_,s18_⟩:=hHeld
 have hL:=s18_
 have RR:=R2
 refine (HC2.out _ _ _ r0 r1).mono ?_
 rintro e w3 ⟨v2,rfl,r2,g⟩
 obtain ⟨A2,a2,B2,b2,hE,_⟩:=r2.open
 subst hE
 have R3:=Bk.below RR g
 replace r0:=Qn.below r0 g
 replace r1:=Qn.below r1 g
 refine hK.out _ _ ⟨bc g s0_,bc g s1_,bc g s2_,bc g s3_,bc g s4_,bc g s5_,bc g s6_,bc g s7_,bc g s8_,bc g s9_,bc g s10_,bc g s11_,bc g s12_,bc g s13_,bc g s14_,bc g s15_,bc g s16_,bc g s17_,bn s18_ g⟩ (fun hHeld=>?_)
 clear g hL RR s0_ s1_ s2_ s3_ s4_ s5_ s6_ s7_ s8_ s9_ s10_ s11_ s12_ s13_ s14_ s15_ s16_ s17_ s18_
 clear hK K
 try simp only [Act.put,lsx]
 refine wrd 15 rfl (fun K hK=>?_)
 rw [if_pos (by rfl)]
 go_wp2_with fail
 obtain ⟨s0_,s1_,s2_,s3_,s4_,s5_,s6_,s7_,s8_,s9_,s10_,s11_,s12_,s13_,s14_,s15_,s16_,s17_,s18_⟩:=hHeld
 have hL:=s18_
 have RR:=R3
 refine (HC3.out _ _ _ (Qn.below hxz hL) (Qn.below hyx hL)).mono ?_
 rintro e w4 ⟨v3,rfl,r3,g⟩
 obtain ⟨A3,a3,B3,b3,hE,_⟩:=r3.open
 subst hE
 have R4:=Bk.below RR g
 replace r0:=Qn.below r0 g
 replace r1:=Qn.below r1 g
 replace r2:=Qn.below r2 g
 refine hK.out _ _ ⟨bc g s0_,bc g s1_,bc g s2_,bc g s3_,bc g s4_,bc g s5_,bc g s6_,bc g s7_,bc g s8_,bc g s9_,bc g s10_,bc g s11_,bc g s12_,bc g s13_,bc g s14_,bc g s15_,bc g s16_,bc g s17_,bn s18_ g⟩ (fun hHeld=>?_)
 clear g hL RR s0_ s1_ s2_ s3_ s4_ s5_ s6_ s7_ s8_ s9_ s10_ s11_ s12_ s13_ s14_ s15_ s16_ s17_ s18_
 clear hK K
 try simp only [Act.put,lsx]
 refine wrd 20 rfl (fun K hK=>?_)
 rw [if_pos (by rfl)]
 go_wp2_with fail
 obtain ⟨s0_,s1_,s2_,s3_,s4_,s5_,s6_,s7_,s8_,s9_,s10_,s11_,s12_,s13_,s14_,s15_,s16_,s17_,s18_⟩:=hHeld
 have hL:=s18_
 have RR:=R4
 refine (HC4.out _ _ _ (Qn.below hxx hL) (Qn.below hyz hL)).mono ?_
 rintro e w5 ⟨v4,rfl,r4,g⟩
 obtain ⟨A4,a4,B4,b4,hE,_⟩:=r4.open
 subst hE
 have R5:=Bk.below RR g
 replace r0:=Qn.below r0 g
 replace r1:=Qn.below r1 g
 replace r2:=Qn.below r2 g
 replace r3:=Qn.below r3 g
 refine hK.out _ _ ⟨bc g s0_,bc g s1_,bc g s2_,bc g s3_,bc g s4_,bc g s5_,bc g s6_,bc g s7_,bc g s8_,bc g s9_,bc g s10_,bc g s11_,bc g s12_,bc g s13_,bc g s14_,bc g s15_,bc g s16_,bc g s17_,bn s18_ g⟩ (fun hHeld=>?_)
 clear g hL RR s0_ s1_ s2_ s3_ s4_ s5_ s6_ s7_ s8_ s9_ s10_ s11_ s12_ s13_ s14_ s15_ s16_ s17_ s18_
 clear hK K
 try simp only [Act.put,lsx]
 refine wrd 21 rfl (fun K hK=>?_)
 rw [if_pos (by rfl)]
 go_wp2_with fail
 obtain ⟨s0_,s1_,s2_,s3_,s4_,s5_,s6_,s7_,s8_,s9_,s10_,s11_,s12_,s13_,s14_,s15_,s16_,s17_,s18_⟩:=hHeld
 have hL:=s18_
 have RR:=R5
 refine (HC5.out _ _ _ r3 r4).mono ?_
 rintro e w6 ⟨v5,rfl,r5,g⟩
 obtain ⟨A5,a5,B5,b5,hE,_⟩:=r5.open
 subst hE
 have R6:=Bk.below RR g
 replace r0:=Qn.below r0 g
 replace r1:=Qn.below r1 g
 replace r2:=Qn.below r2 g
 replace r3:=Qn.below r3 g
 replace r4:=Qn.below r4 g
 refine hK.out _ _ ⟨bc g s0_,bc g s1_,bc g s2_,bc g s3_,bc g s4_,bc g s5_,bc g s6_,bc g s7_,bc g s8_,bc g s9_,bc g s10_,bc g s11_,bc g s12_,bc g s13_,bc g s14_,bc g s15_,bc g s16_,bc g s17_,bn s18_ g⟩ (fun hHeld=>?_)
 clear g hL RR s0_ s1_ s2_ s3_ s4_ s5_ s6_ s7_ s8_ s9_ s10_ s11_ s12_ s13_ s14_ s15_ s16_ s17_ s18_
 clear hK K
 try simp only [Act.put,lsx]
 refine wrd 26 rfl (fun K hK=>?_)
 rw [if_pos (by rfl)]
 go_wp2_with fail
 obtain ⟨s0_,s1_,s2_,s3_,s4_,s5_,s6_,s7_,s8_,s9_,s10_,s11_,s12_,s13_,s14_,s15_,s16_,s17_,s18_⟩:=hHeld
 have hL:=s18_
 have RR:=R6
 refine (HC6.out _ _ _ (Qn.below hxx hL) (Qn.below hyy hL)).mono ?_
 rintro e w7 ⟨v6,rfl,r6,g⟩
 obtain ⟨A6,a6,B6,b6,hE,_⟩:=r6.open
 subst hE
 have R7:=Bk.below RR g
 replace r0:=Qn.below r0 g
 replace r1:=Qn.below r1 g
 replace r2:=Qn.below r2 g
 replace r3:=Qn.below r3 g
 replace r4:=Qn.below r4 g
 replace r5:=Qn.below r5 g
 refine hK.out _ _ ⟨bc g s0_,bc g s1_,bc g s2_,bc g s3_,bc g s4_,bc g s5_,bc g s6_,bc g s7_,bc g s8_,bc g s9_,bc g s10_,bc g s11_,bc g s12_,bc g s13_,bc g s14_,bc g s15_,bc g s16_,bc g s17_,bn s18_ g⟩ (fun hHeld=>?_)
 clear g hL RR s0_ s1_ s2_ s3_ s4_ s5_ s6_ s7_ s8_ s9_ s10_ s11_ s12_ s13_ s14_ s15_ s16_ s17_ s18_
 clear hK K
 try simp only [Act.put,lsx]
 refine wrd 31 rfl (fun K hK=>?_)
 rw [if_pos (by rfl)]
 go_wp2_with fail
 obtain ⟨s0_,s1_,s2_,s3_,s4_,s5_,s6_,s7_,s8_,s9_,s10_,s11_,s12_,s13_,s14_,s15_,s16_,s17_,s18_⟩:=hHeld
 have hL:=s18_
 have RR:=R7
 refine (HC7.out _ _ _ (Qn.below hxy hL) (Qn.below hyx hL)).mono ?_
 rintro e w8 ⟨v7,rfl,r7,g⟩
 obtain ⟨A7,a7,B7,b7,hE,_⟩:=r7.open
 subst hE
 have R8:=Bk.below RR g
 replace r0:=Qn.below r0 g
 replace r1:=Qn.below r1 g
 replace r2:=Qn.below r2 g
 replace r3:=Qn.below r3 g
 replace r4:=Qn.below r4 g
 replace r5:=Qn.below r5 g
 replace r6:=Qn.below r6 g
 refine hK.out _ _ ⟨bc g s0_,bc g s1_,bc g s2_,bc g s3_,bc g s4_,bc g s5_,bc g s6_,bc g s7_,bc g s8_,bc g s9_,bc g s10_,bc g s11_,bc g s12_,bc g s13_,bc g s14_,bc g s15_,bc g s16_,bc g s17_,bn s18_ g⟩ (fun hHeld=>?_)
 clear g hL RR s0_ s1_ s2_ s3_ s4_ s5_ s6_ s7_ s8_ s9_ s10_ s11_ s12_ s13_ s14_ s15_ s16_ s17_ s18_
 clear hK K
 try simp only [Act.put,lsx]
 refine wrd 32 rfl (fun K hK=>?_)
 rw [if_pos (by rfl)]
 go_wp2_with fail
 obtain ⟨s0_,s1_,s2_,s3_,s4_,s5_,s6_,s7_,s8_,s9_,s10_,s11_,s12_,s13_,s14_,s15_,s16_,s17_,s18_⟩:=hHeld
 have hL:=s18_
 have RR:=R8
 refine (HC8.out _ _ _ r6 r7).mono ?_
 rintro e w9 ⟨v8,rfl,r8,g⟩
 obtain ⟨A8,a8,B8,b8,hE,_⟩:=r8.open
 subst hE
 have R9:=Bk.below RR g
 replace r0:=Qn.below r0 g
 replace r1:=Qn.below r1 g
 replace r2:=Qn.below r2 g
 replace r3:=Qn.below r3 g
 replace r4:=Qn.below r4 g
 replace r5:=Qn.below r5 g
 replace r6:=Qn.below r6 g
 replace r7:=Qn.below r7 g
 refine hK.out _ _ ⟨bc g s0_,bc g s1_,bc g s2_,bc g s3_,bc g s4_,bc g s5_,bc g s6_,bc g s7_,bc g s8_,bc g s9_,bc g s10_,bc g s11_,bc g s12_,bc g s13_,bc g s14_,bc g s15_,bc g s16_,bc g s17_,bn s18_ g⟩ (fun hHeld=>?_)
 clear g hL RR s0_ s1_ s2_ s3_ s4_ s5_ s6_ s7_ s8_ s9_ s10_ s11_ s12_ s13_ s14_ s15_ s16_ s17_ s18_
 clear hK K
 try simp only [Act.put,lsx]
 refine wtk 33 (.agg #[.bool (decide (q2.num<0)),.slice A2 (wds q2.num.natAbs).length a2,.slice B2 (wds q2.den).length b2,.bool (decide (q5.num<0)),.slice A5 (wds q5.num.natAbs).length a5,.slice B5 (wds q5.den).length b5,.bool (decide (q8.num<0)),.slice A8 (wds q8.num.natAbs).length a8,.slice B8 (wds q8.den).length b8]) rfl rfl (fun w' hS=>?_) hHeld ?_
 ·(try dsimp only at hS); go_split_ands; go_simp
 try simp only [Act.put,lsx]
 refine wrd 34 rfl (fun K hK=>?_)
 obtain ⟨s0_,s1_,s2_,s3_,s4_,s5_,s6_,s7_,s8_,s9_,s10_,s11_,s12_,s13_,s14_,s15_,s16_,s17_,s18_⟩:=hHeld
 refine step_store_row (w0:=w) (B:=w.heap.size) (b:=w.heap.size+1+1) (cs:=[.bool (decide (q2.num<0)),.slice A2 (wds q2.num.natAbs).length a2,.slice B2 (wds q2.den).length b2,.bool (decide (q5.num<0)),.slice A5 (wds q5.num.natAbs).length a5,.slice B5 (wds q5.den).length b5,.bool (decide (q8.num<0)),.slice A8 (wds q8.num.natAbs).length a8,.slice B8 (wds q8.den).length b8]) (by rfl) 86 (.tmp 4) (.tmp 38) (by rfl) (by rfl) (by rfl) R9 (by rfl) (by simp) (by rfl) (by kernel_rfl) s18_ (by omega) ?_
 intro W4 K4 G4 KP4 FR4
 refine hK.out _ _ ⟨FR4 _ _ _ (by omega) s0_,FR4 _ _ _ (by omega) s1_,FR4 _ _ _ (by omega) s2_,FR4 _ _ _ (by omega) s3_,FR4 _ _ _ (by omega) s4_,FR4 _ _ _ (by omega) s5_,FR4 _ _ _ (by omega) s6_,FR4 _ _ _ (by omega) s7_,FR4 _ _ _ (by omega) s8_,FR4 _ _ _ (by omega) s9_,FR4 _ _ _ (by omega) s10_,FR4 _ _ _ (by omega) s11_,FR4 _ _ _ (by omega) s12_,FR4 _ _ _ (by omega) s13_,FR4 _ _ _ (by omega) s14_,FR4 _ _ _ (by omega) s15_,FR4 _ _ _ (by omega) s16_,FR4 _ _ _ (by omega) s17_,G4⟩ (fun hHeld=>?_)
 clear hK K
 try simp only [Act.put,lsx]
 refine wpAnyH_done (by kernel_rfl) ?_ _
 clear hHeld
 obtain ⟨⟨m0,m1,m2,m3,m4,m5,m6,m7,m8⟩, -⟩:=K4.c9
 go_wp2
 refine bodyPost_ret (v:=.agg #[.bool (decide (q2.num<0)),.slice A2 (wds q2.num.natAbs).length a2,.slice B2 (wds q2.den).length b2,.bool (decide (q5.num<0)),.slice A5 (wds q5.num.natAbs).length a5,.slice B5 (wds q5.den).length b5,.bool (decide (q8.num<0)),.slice A8 (wds q8.num.natAbs).length a8,.slice B8 (wds q8.den).length b8]) (by simp [results,Tryz.results116,go_sem, *]) rfl ?_
 exact ⟨_,rfl,vn_mk (r2.keep KP4) (r5.keep KP4) (r8.keep KP4),G4⟩
set_option maxRecDepth 100000 in
set_option maxHeartbeats 4000000 in
theorem wInner0_walk (ux uy : Value) (x : V3) (y : V3) (w : World) (hx : Vn w ux x) (hy : Vn w uy y) (bbx : x.le 1000000) (bby : y.le 1000000) :
  Calls Tryz.prog 118 #[ux,uy] w (Ret fun v' w'=>Qn w' v' (x.x * y.x + (x.y * y.y+x.z * y.z))∧Below w.heap.size w w'):=by
 obtain ⟨Pxx,pxx,Dxx,dxx,Pxy,pxy,Dxy,dxy,Pxz,pxz,Dxz,dxz,hzx,hxx,hxy,hxz⟩:=hx.open
 subst hzx
 clear hx
 obtain ⟨txx,txy,txz⟩:=bbx
 obtain ⟨sxx,esxx⟩ : ∃ b,b=decide (x.x.num<0):=⟨_,rfl⟩
 rw [← esxx] at hxx ⊢
 clear esxx
 obtain ⟨sxy,esxy⟩ : ∃ b,b=decide (x.y.num<0):=⟨_,rfl⟩
 rw [← esxy] at hxy ⊢
 clear esxy
 obtain ⟨sxz,esxz⟩ : ∃ b,b=decide (x.z.num<0):=⟨_,rfl⟩
 rw [← esxz] at hxz ⊢
 clear esxz
 obtain ⟨Pyx,pyx,Dyx,dyx,Pyy,pyy,Dyy,dyy,Pyz,pyz,Dyz,dyz,hzy,hyx,hyy,hyz⟩:=hy.open
 subst hzy
 clear hy
 obtain ⟨tyx,tyy,tyz⟩:=bby
 obtain ⟨syx,esyx⟩ : ∃ b,b=decide (y.x.num<0):=⟨_,rfl⟩
 rw [← esyx] at hyx ⊢
 clear esyx
 obtain ⟨syy,esyy⟩ : ∃ b,b=decide (y.y.num<0):=⟨_,rfl⟩
 rw [← esyy] at hyy ⊢
 clear esyy
 obtain ⟨syz,esyz⟩ : ∃ b,b=decide (y.z.num<0):=⟨_,rfl⟩
 rw [← esyz] at hyz ⊢
 clear esyz
 have z0 : rz (x.x * y.x)≤2000000:=rz_mul_le txx tyx (by omega)
 have z1 : rz (x.y * y.y)≤2000000:=rz_mul_le txy tyy (by omega)
 have z2 : rz (x.z * y.z)≤2000000:=rz_mul_le txz tyz (by omega)
 have z3 : rz ((x.y * y.y) + (x.z * y.z))≤4000001:=rz_add_le z1 z2 (by omega)
 have z4 : rz ((x.x * y.x) + ((x.y * y.y) + (x.z * y.z)))≤6000002:=rz_add_le z0 z3 (by omega)
 have HC0 : Hid (∀ u v W,Qn W u x.x→Qn W v y.x→Calls Tryz.prog 152 #[u,v] W (Ret fun v' w'=>Qn w' v' (x.x * y.x)∧Below W.heap.size W w')):=Lib.hid (fun u v W h g=>qMul_walk u v _ _ W h g (Nat.le_trans txx (by omega)) (Nat.le_trans tyx (by omega)))
 have HC1 : Hid (∀ u v W,Qn W u x.y→Qn W v y.y→Calls Tryz.prog 152 #[u,v] W (Ret fun v' w'=>Qn w' v' (x.y * y.y)∧Below W.heap.size W w')):=Lib.hid (fun u v W h g=>qMul_walk u v _ _ W h g (Nat.le_trans txy (by omega)) (Nat.le_trans tyy (by omega)))
 have HC2 : Hid (∀ u v W,Qn W u x.z→Qn W v y.z→Calls Tryz.prog 152 #[u,v] W (Ret fun v' w'=>Qn w' v' (x.z * y.z)∧Below W.heap.size W w')):=Lib.hid (fun u v W h g=>qMul_walk u v _ _ W h g (Nat.le_trans txz (by omega)) (Nat.le_trans tyz (by omega)))
 have HC3 : Hid (∀ u v W,Qn W u (x.y * y.y)→Qn W v (x.z * y.z)→Calls Tryz.prog 102 #[u,v] W (Ret fun v' w'=>Qn w' v' ((x.y * y.y) + (x.z * y.z))∧Below W.heap.size W w')):=Lib.hid (fun u v W h g=>qAdd_walk u v _ _ W h g (Nat.le_trans z1 (by omega)) (Nat.le_trans z2 (by omega)))
 have HC4 : Hid (∀ u v W,Qn W u (x.x * y.x)→Qn W v ((x.y * y.y) + (x.z * y.z))→Calls Tryz.prog 102 #[u,v] W (Ret fun v' w'=>Qn w' v' ((x.x * y.x) + ((x.y * y.y) + (x.z * y.z)))∧Below W.heap.size W w')):=Lib.hid (fun u v W h g=>qAdd_walk u v _ _ W h g (Nat.le_trans z0 (by omega)) (Nat.le_trans z3 (by omega)))
 have hres : (x.x * y.x + (x.y * y.y+x.z * y.z))=((x.x * y.x) + ((x.y * y.y) + (x.z * y.z))):=rfl
 rw [hres]
 clear hres
 clear z4 z3 z2 z1 z0 txx txy txz tyx tyy tyz
 generalize ((x.x * y.x) + ((x.y * y.y) + (x.z * y.z)))=q4 at *
 generalize ((x.y * y.y) + (x.z * y.z))=q3 at *
 generalize (x.z * y.z)=q2 at *
 generalize (x.y * y.y)=q1 at *
 generalize (x.x * y.x)=q0 at *
 go_enter Tryz.func118,Tryz.ntmps118
 go_wp2
 have BKx : Bk (((w.alloc (.cells #[.bool sxx,.slice Pxx (wds x.x.num.natAbs).length pxx,.slice Dxx (wds x.x.den).length dxx,.bool sxy,.slice Pxy (wds x.y.num.natAbs).length pxy,.slice Dxy (wds x.y.den).length dxy,.bool sxz,.slice Pxz (wds x.z.num.natAbs).length pxz,.slice Dxz (wds x.z.den).length dxz] 86)).alloc (.cells #[.bool syx,.slice Pyx (wds y.x.num.natAbs).length pyx,.slice Dyx (wds y.x.den).length dyx,.bool syy,.slice Pyy (wds y.y.num.natAbs).length pyy,.slice Dyy (wds y.y.den).length dyy,.bool syz,.slice Pyz (wds y.z.num.natAbs).length pyz,.slice Dyz (wds y.z.den).length dyz] 86)).alloc (.cells #[.bool false,.slice none 0 0,.slice none 0 0] 84)) (w.heap.size) [.bool sxx,.slice Pxx (wds x.x.num.natAbs).length pxx,.slice Dxx (wds x.x.den).length dxx,.bool sxy,.slice Pxy (wds x.y.num.natAbs).length pxy,.slice Dxy (wds x.y.den).length dxy,.bool sxz,.slice Pxz (wds x.z.num.natAbs).length pxz,.slice Dxz (wds x.z.den).length dxz]:=bkk
 have BKy : Bk (((w.alloc (.cells #[.bool sxx,.slice Pxx (wds x.x.num.natAbs).length pxx,.slice Dxx (wds x.x.den).length dxx,.bool sxy,.slice Pxy (wds x.y.num.natAbs).length pxy,.slice Dxy (wds x.y.den).length dxy,.bool sxz,.slice Pxz (wds x.z.num.natAbs).length pxz,.slice Dxz (wds x.z.den).length dxz] 86)).alloc (.cells #[.bool syx,.slice Pyx (wds y.x.num.natAbs).length pyx,.slice Dyx (wds y.x.den).length dyx,.bool syy,.slice Pyy (wds y.y.num.natAbs).length pyy,.slice Dyy (wds y.y.den).length dyy,.bool syz,.slice Pyz (wds y.z.num.natAbs).length pyz,.slice Dyz (wds y.z.den).length dyz] 86)).alloc (.cells #[.bool false,.slice none 0 0,.slice none 0 0] 84)) (w.heap.size+1) [.bool syx,.slice Pyx (wds y.x.num.natAbs).length pyx,.slice Dyx (wds y.x.den).length dyx,.bool syy,.slice Pyy (wds y.y.num.natAbs).length pyy,.slice Dyy (wds y.y.den).length dyy,.bool syz,.slice Pyz (wds y.z.num.natAbs).length pyz,.slice Dyz (wds y.z.den).length dyz]:=bkk
 have BZ : Bk (((w.alloc (.cells #[.bool sxx,.slice Pxx (wds x.x.num.natAbs).length pxx,.slice Dxx (wds x.x.den).length dxx,.bool sxy,.slice Pxy (wds x.y.num.natAbs).length pxy,.slice Dxy (wds x.y.den).length dxy,.bool sxz,.slice Pxz (wds x.z.num.natAbs).length pxz,.slice Dxz (wds x.z.den).length dxz] 86)).alloc (.cells #[.bool syx,.slice Pyx (wds y.x.num.natAbs).length pyx,.slice Dyx (wds y.x.den).length dyx,.bool syy,.slice Pyy (wds y.y.num.natAbs).length pyy,.slice Dyy (wds y.y.den).length dyy,.bool syz,.slice Pyz (wds y.z.num.natAbs).length pyz,.slice Dyz (wds y.z.den).length dyz] 86)).alloc (.cells #[.bool false,.slice none 0 0,.slice none 0 0] 84)) (w.heap.size+1+1) [.bool false,.slice none 0 0,.slice none 0 0]:=bkk
 have BB : Below w.heap.size w (((w.alloc (.cells #[.bool sxx,.slice Pxx (wds x.x.num.natAbs).length pxx,.slice Dxx (wds x.x.den).length dxx,.bool sxy,.slice Pxy (wds x.y.num.natAbs).length pxy,.slice Dxy (wds x.y.den).length dxy,.bool sxz,.slice Pxz (wds x.z.num.natAbs).length pxz,.slice Dxz (wds x.z.den).length dxz] 86)).alloc (.cells #[.bool syx,.slice Pyx (wds y.x.num.natAbs).length pyx,.slice Dyx (wds y.x.den).length dyx,.bool syy,.slice Pyy (wds y.y.num.natAbs).length pyy,.slice Dyy (wds y.y.den).length dyy,.bool syz,.slice Pyz (wds y.z.num.natAbs).length pyz,.slice Dyz (wds y.z.den).length dyz] 86)).alloc (.cells #[.bool false,.slice none 0 0,.slice none 0 0] 84)):=bel
 generalize hWe : ((w.alloc (.cells #[.bool sxx,.slice Pxx (wds x.x.num.natAbs).length pxx,.slice Dxx (wds x.x.den).length dxx,.bool sxy,.slice Pxy (wds x.y.num.natAbs).length pxy,.slice Dxy (wds x.y.den).length dxy,.bool sxz,.slice Pxz (wds x.z.num.natAbs).length pxz,.slice Dxz (wds x.z.den).length dxz] 86)).alloc (.cells #[.bool syx,.slice Pyx (wds y.x.num.natAbs).length pyx,.slice Dyx (wds y.x.den).length dyx,.bool syy,.slice Pyy (wds y.y.num.natAbs).length pyy,.slice Dyy (wds y.y.den).length dyy,.bool syz,.slice Pyz (wds y.z.num.natAbs).length pyz,.slice Dyz (wds y.z.den).length dyz] 86)).alloc (.cells #[.bool false,.slice none 0 0,.slice none 0 0] 84)=W at *
 clear hWe
 obtain ⟨⟨xc0,xc1,xc2,xc3,xc4,xc5,xc6,xc7,xc8⟩, -⟩:=BKx.c9
 obtain ⟨⟨yc0,yc1,yc2,yc3,yc4,yc5,yc6,yc7,yc8⟩, -⟩:=BKy.c9
 clear BKx BKy
 refine wp_region_held_drew (S:=fun w'=>w'.cell? ⟨w.heap.size,0,none⟩=some (.bool sxx)∧w'.cell? ⟨w.heap.size,1,none⟩=some (.slice Pxx (wds x.x.num.natAbs).length pxx)∧w'.cell? ⟨w.heap.size,2,none⟩=some (.slice Dxx (wds x.x.den).length dxx)∧w'.cell? ⟨w.heap.size,3,none⟩=some (.bool sxy)∧w'.cell? ⟨w.heap.size,4,none⟩=some (.slice Pxy (wds x.y.num.natAbs).length pxy)∧w'.cell? ⟨w.heap.size,5,none⟩=some (.slice Dxy (wds x.y.den).length dxy)∧w'.cell? ⟨w.heap.size,6,none⟩=some (.bool sxz)∧w'.cell? ⟨w.heap.size,7,none⟩=some (.slice Pxz (wds x.z.num.natAbs).length pxz)∧w'.cell? ⟨w.heap.size,8,none⟩=some (.slice Dxz (wds x.z.den).length dxz)∧w'.cell? ⟨w.heap.size+1,0,none⟩=some (.bool syx)∧w'.cell? ⟨w.heap.size+1,1,none⟩=some (.slice Pyx (wds y.x.num.natAbs).length pyx)∧w'.cell? ⟨w.heap.size+1,2,none⟩=some (.slice Dyx (wds y.x.den).length dyx)∧w'.cell? ⟨w.heap.size+1,3,none⟩=some (.bool syy)∧w'.cell? ⟨w.heap.size+1,4,none⟩=some (.slice Pyy (wds y.y.num.natAbs).length pyy)∧w'.cell? ⟨w.heap.size+1,5,none⟩=some (.slice Dyy (wds y.y.den).length dyy)∧w'.cell? ⟨w.heap.size+1,6,none⟩=some (.bool syz)∧w'.cell? ⟨w.heap.size+1,7,none⟩=some (.slice Pyz (wds y.z.num.natAbs).length pyz)∧w'.cell? ⟨w.heap.size+1,8,none⟩=some (.slice Dyz (wds y.z.den).length dyz)∧Below w.heap.size w w') (by kernel_rfl) ?_ (fun hHeld=>?_)
 ·exact ⟨bc (bd (br _)) xc0,bc (bd (br _)) xc1,bc (bd (br _)) xc2,bc (bd (br _)) xc3,bc (bd (br _)) xc4,bc (bd (br _)) xc5,bc (bd (br _)) xc6,bc (bd (br _)) xc7,bc (bd (br _)) xc8,bc (bd (br _)) yc0,bc (bd (br _)) yc1,bc (bd (br _)) yc2,bc (bd (br _)) yc3,bc (bd (br _)) yc4,bc (bd (br _)) yc5,bc (bd (br _)) yc6,bc (bd (br _)) yc7,bc (bd (br _)) yc8,bd BB⟩
 refine wtk 0 (.pointer (some ⟨w.heap.size,0,none⟩)) rfl rfl (fun w' hS=>?_) hHeld ?_
 ·(try dsimp only at hS); go_split_ands; go_simp
 try simp only [Act.put,lsx]
 refine wtk 1 (.agg #[.bool sxx,.slice Pxx (wds x.x.num.natAbs).length pxx,.slice Dxx (wds x.x.den).length dxx]) rfl rfl (fun w' hS=>?_) hHeld ?_
 ·(try dsimp only at hS); go_split_ands; go_simp
 try simp only [Act.put,lsx]
 refine wtk 2 (.pointer (some ⟨w.heap.size+1,0,none⟩)) rfl rfl (fun w' hS=>?_) hHeld ?_
 ·(try dsimp only at hS); go_split_ands; go_simp
 try simp only [Act.put,lsx]
 refine wtk 3 (.agg #[.bool syx,.slice Pyx (wds y.x.num.natAbs).length pyx,.slice Dyx (wds y.x.den).length dyx]) rfl rfl (fun w' hS=>?_) hHeld ?_
 ·(try dsimp only at hS); go_split_ands; go_simp
 try simp only [Act.put,lsx]
 refine wtk 5 (.pointer (some ⟨w.heap.size,3,none⟩)) rfl rfl (fun w' hS=>?_) hHeld ?_
 ·(try dsimp only at hS); go_split_ands; go_simp
 try simp only [Act.put,lsx]
 refine wtk 6 (.agg #[.bool sxy,.slice Pxy (wds x.y.num.natAbs).length pxy,.slice Dxy (wds x.y.den).length dxy]) rfl rfl (fun w' hS=>?_) hHeld ?_
 ·(try dsimp only at hS); go_split_ands; go_simp
 try simp only [Act.put,lsx]
 refine wtk 7 (.pointer (some ⟨w.heap.size+1,3,none⟩)) rfl rfl (fun w' hS=>?_) hHeld ?_
 ·(try dsimp only at hS); go_split_ands; go_simp
 try simp only [Act.put,lsx]
 refine wtk 8 (.agg #[.bool syy,.slice Pyy (wds y.y.num.natAbs).length pyy,.slice Dyy (wds y.y.den).length dyy]) rfl rfl (fun w' hS=>?_) hHeld ?_
 ·(try dsimp only at hS); go_split_ands; go_simp
 try simp only [Act.put,lsx]
 refine wtk 10 (.pointer (some ⟨w.heap.size,6,none⟩)) rfl rfl (fun w' hS=>?_) hHeld ?_
 ·(try dsimp only at hS); go_split_ands; go_simp
 try simp only [Act.put,lsx]
 refine wtk 11 (.agg #[.bool sxz,.slice Pxz (wds x.z.num.natAbs).length pxz,.slice Dxz (wds x.z.den).length dxz]) rfl rfl (fun w' hS=>?_) hHeld ?_
 ·(try dsimp only at hS); go_split_ands; go_simp
 try simp only [Act.put,lsx]
 refine wtk 12 (.pointer (some ⟨w.heap.size+1,6,none⟩)) rfl rfl (fun w' hS=>?_) hHeld ?_
 ·(try dsimp only at hS); go_split_ands; go_simp
 try simp only [Act.put,lsx]
 refine wtk 13 (.agg #[.bool syz,.slice Pyz (wds y.z.num.natAbs).length pyz,.slice Dyz (wds y.z.den).length dyz]) rfl rfl (fun w' hS=>?_) hHeld ?_
 ·(try dsimp only at hS); go_split_ands; go_simp
 try simp only [Act.put,lsx]
 refine wrd 4 rfl (fun K hK=>?_)
 rw [if_pos (by rfl)]
 go_wp2_with fail
 obtain ⟨s0_,s1_,s2_,s3_,s4_,s5_,s6_,s7_,s8_,s9_,s10_,s11_,s12_,s13_,s14_,s15_,s16_,s17_,s18_⟩:=hHeld
 have hL:=s18_
 have RR:=Bk.drew BZ
 refine (HC0.out _ _ _ (Qn.below hxx hL) (Qn.below hyx hL)).mono ?_
 rintro e w1 ⟨v0,rfl,r0,g⟩
 obtain ⟨A0,a0,B0,b0,hE,_⟩:=r0.open
 subst hE
 have R1:=Bk.below RR g
 refine hK.out _ _ ⟨bc g s0_,bc g s1_,bc g s2_,bc g s3_,bc g s4_,bc g s5_,bc g s6_,bc g s7_,bc g s8_,bc g s9_,bc g s10_,bc g s11_,bc g s12_,bc g s13_,bc g s14_,bc g s15_,bc g s16_,bc g s17_,bn s18_ g⟩ (fun hHeld=>?_)
 clear g hL RR s0_ s1_ s2_ s3_ s4_ s5_ s6_ s7_ s8_ s9_ s10_ s11_ s12_ s13_ s14_ s15_ s16_ s17_ s18_
 clear hK K
 try simp only [Act.put,lsx]
 refine wrd 9 rfl (fun K hK=>?_)
 rw [if_pos (by rfl)]
 go_wp2_with fail
 obtain ⟨s0_,s1_,s2_,s3_,s4_,s5_,s6_,s7_,s8_,s9_,s10_,s11_,s12_,s13_,s14_,s15_,s16_,s17_,s18_⟩:=hHeld
 have hL:=s18_
 have RR:=R1
 refine (HC1.out _ _ _ (Qn.below hxy hL) (Qn.below hyy hL)).mono ?_
 rintro e w2 ⟨v1,rfl,r1,g⟩
 obtain ⟨A1,a1,B1,b1,hE,_⟩:=r1.open
 subst hE
 have R2:=Bk.below RR g
 replace r0:=Qn.below r0 g
 refine hK.out _ _ ⟨bc g s0_,bc g s1_,bc g s2_,bc g s3_,bc g s4_,bc g s5_,bc g s6_,bc g s7_,bc g s8_,bc g s9_,bc g s10_,bc g s11_,bc g s12_,bc g s13_,bc g s14_,bc g s15_,bc g s16_,bc g s17_,bn s18_ g⟩ (fun hHeld=>?_)
 clear g hL RR s0_ s1_ s2_ s3_ s4_ s5_ s6_ s7_ s8_ s9_ s10_ s11_ s12_ s13_ s14_ s15_ s16_ s17_ s18_
 clear hK K
 try simp only [Act.put,lsx]
 refine wrd 14 rfl (fun K hK=>?_)
 rw [if_pos (by rfl)]
 go_wp2_with fail
 obtain ⟨s0_,s1_,s2_,s3_,s4_,s5_,s6_,s7_,s8_,s9_,s10_,s11_,s12_,s13_,s14_,s15_,s16_,s17_,s18_⟩:=hHeld
 have hL:=s18_
 have RR:=R2
 refine (HC2.out _ _ _ (Qn.below hxz hL) (Qn.below hyz hL)).mono ?_
 rintro e w3 ⟨v2,rfl,r2,g⟩
 obtain ⟨A2,a2,B2,b2,hE,_⟩:=r2.open
 subst hE
 have R3:=Bk.below RR g
 replace r0:=Qn.below r0 g
 replace r1:=Qn.below r1 g
 refine hK.out _ _ ⟨bc g s0_,bc g s1_,bc g s2_,bc g s3_,bc g s4_,bc g s5_,bc g s6_,bc g s7_,bc g s8_,bc g s9_,bc g s10_,bc g s11_,bc g s12_,bc g s13_,bc g s14_,bc g s15_,bc g s16_,bc g s17_,bn s18_ g⟩ (fun hHeld=>?_)
 clear g hL RR s0_ s1_ s2_ s3_ s4_ s5_ s6_ s7_ s8_ s9_ s10_ s11_ s12_ s13_ s14_ s15_ s16_ s17_ s18_
 clear hK K
 try simp only [Act.put,lsx]
 refine wrd 15 rfl (fun K hK=>?_)
 rw [if_pos (by rfl)]
 go_wp2_with fail
 obtain ⟨s0_,s1_,s2_,s3_,s4_,s5_,s6_,s7_,s8_,s9_,s10_,s11_,s12_,s13_,s14_,s15_,s16_,s17_,s18_⟩:=hHeld
 have hL:=s18_
 have RR:=R3
 refine (HC3.out _ _ _ r1 r2).mono ?_
 rintro e w4 ⟨v3,rfl,r3,g⟩
 obtain ⟨A3,a3,B3,b3,hE,_⟩:=r3.open
 subst hE
 have R4:=Bk.below RR g
 replace r0:=Qn.below r0 g
 replace r1:=Qn.below r1 g
 replace r2:=Qn.below r2 g
 refine hK.out _ _ ⟨bc g s0_,bc g s1_,bc g s2_,bc g s3_,bc g s4_,bc g s5_,bc g s6_,bc g s7_,bc g s8_,bc g s9_,bc g s10_,bc g s11_,bc g s12_,bc g s13_,bc g s14_,bc g s15_,bc g s16_,bc g s17_,bn s18_ g⟩ (fun hHeld=>?_)
 clear g hL RR s0_ s1_ s2_ s3_ s4_ s5_ s6_ s7_ s8_ s9_ s10_ s11_ s12_ s13_ s14_ s15_ s16_ s17_ s18_
 clear hK K
 try simp only [Act.put,lsx]
 refine wrd 16 rfl (fun K hK=>?_)
 rw [if_pos (by rfl)]
 go_wp2_with fail
 obtain ⟨s0_,s1_,s2_,s3_,s4_,s5_,s6_,s7_,s8_,s9_,s10_,s11_,s12_,s13_,s14_,s15_,s16_,s17_,s18_⟩:=hHeld
 have hL:=s18_
 have RR:=R4
 refine (HC4.out _ _ _ r0 r3).mono ?_
 rintro e w5 ⟨v4,rfl,r4,g⟩
 obtain ⟨A4,a4,B4,b4,hE,_⟩:=r4.open
 subst hE
 have R5:=Bk.below RR g
 replace r0:=Qn.below r0 g
 replace r1:=Qn.below r1 g
 replace r2:=Qn.below r2 g
 replace r3:=Qn.below r3 g
 refine hK.out _ _ ⟨bc g s0_,bc g s1_,bc g s2_,bc g s3_,bc g s4_,bc g s5_,bc g s6_,bc g s7_,bc g s8_,bc g s9_,bc g s10_,bc g s11_,bc g s12_,bc g s13_,bc g s14_,bc g s15_,bc g s16_,bc g s17_,bn s18_ g⟩ (fun hHeld=>?_)
 clear g hL RR s0_ s1_ s2_ s3_ s4_ s5_ s6_ s7_ s8_ s9_ s10_ s11_ s12_ s13_ s14_ s15_ s16_ s17_ s18_
 clear hK K
 try simp only [Act.put,lsx]
 refine wrd 17 rfl (fun K hK=>?_)
 obtain ⟨s0_,s1_,s2_,s3_,s4_,s5_,s6_,s7_,s8_,s9_,s10_,s11_,s12_,s13_,s14_,s15_,s16_,s17_,s18_⟩:=hHeld
 refine step_store_row (w0:=w) (B:=w.heap.size) (b:=w.heap.size+1+1) (cs:=[.bool (decide (q4.num<0)),.slice A4 (wds q4.num.natAbs).length a4,.slice B4 (wds q4.den).length b4]) (by rfl) 84 (.tmp 4) (.tmp 21) (by rfl) (by rfl) (by rfl) R5 (by rfl) (by simp) (by rfl) (by kernel_rfl) s18_ (by omega) ?_
 intro W4 K4 G4 KP4 FR4
 refine hK.out _ _ ⟨FR4 _ _ _ (by omega) s0_,FR4 _ _ _ (by omega) s1_,FR4 _ _ _ (by omega) s2_,FR4 _ _ _ (by omega) s3_,FR4 _ _ _ (by omega) s4_,FR4 _ _ _ (by omega) s5_,FR4 _ _ _ (by omega) s6_,FR4 _ _ _ (by omega) s7_,FR4 _ _ _ (by omega) s8_,FR4 _ _ _ (by omega) s9_,FR4 _ _ _ (by omega) s10_,FR4 _ _ _ (by omega) s11_,FR4 _ _ _ (by omega) s12_,FR4 _ _ _ (by omega) s13_,FR4 _ _ _ (by omega) s14_,FR4 _ _ _ (by omega) s15_,FR4 _ _ _ (by omega) s16_,FR4 _ _ _ (by omega) s17_,G4⟩ (fun hHeld=>?_)
 clear hK K
 try simp only [Act.put,lsx]
 refine wpAnyH_done (by kernel_rfl) ?_ _
 clear hHeld
 obtain ⟨m0,m1,m2, -⟩:=K4.c3
 go_wp2
 refine bodyPost_ret (v:=.agg #[.bool (decide (q4.num<0)),.slice A4 (wds q4.num.natAbs).length a4,.slice B4 (wds q4.den).length b4]) (by simp [results,Tryz.results118,go_sem, *]) rfl ?_
 exact ⟨_,rfl,r4.keep KP4,G4⟩
theorem wInner_walk (ux uy : Value) (x y : V3) (w : World) (hx : Vn w ux x) (hy : Vn w uy y) (bbx : x.le 1000000) (bby : y.le 1000000) :
  Calls Tryz.prog 118 #[ux,uy] w (Ret fun v' w'=>Qn w' v' (x.dot y)∧Below w.heap.size w w'):=by
 have:=wInner0_walk ux uy x y w hx hy bbx bby
 have e : x.dot y=x.x * y.x + (x.y * y.y+x.z * y.z):=by unfold V3.dot; rw [Rat.add_assoc]
 rw [e]
 exact this
theorem qn_bool {w : World} {b : Bool} {n d : Value} {r : Rat} (h : Qn w (.agg #[.bool b,n,d]) r) : b=decide (r.num<0):=by
 obtain ⟨A,a,B,c,hE, -, -⟩:=h.open
 injection hE with hE
 injection hE with hE
 injection hE with h1 h2
 injection h1
theorem vn_mk2 {w : World} {b1 b2 b3 : Bool} {n1 d1 n2 d2 n3 d3 : Value} {x y z : Rat} (a : Qn w (.agg #[.bool b1,n1,d1]) x) (b : Qn w (.agg #[.bool b2,n2,d2]) y) (c : Qn w (.agg #[.bool b3,n3,d3]) z) : Vn w (.agg #[.bool b1,n1,d1,.bool b2,n2,d2,.bool b3,n3,d3]) ⟨x,y,z⟩:=by
 obtain rfl:=qn_bool a
 obtain rfl:=qn_bool b
 obtain rfl:=qn_bool c
 exact vn_mk a b c
def Pn (w : World) (u : Value) (p : Pl) : Prop:=∃ n1 d1 n2 d2 n3 d3 b4 n4 d4,u=.agg #[.bool (decide (p.n.x.num<0)),n1,d1,.bool (decide (p.n.y.num<0)),n2,d2,.bool (decide (p.n.z.num<0)),n3,d3,.bool b4,n4,d4] ∧
 Qn w (.agg #[.bool (decide (p.n.x.num<0)),n1,d1]) p.n.x∧Qn w (.agg #[.bool (decide (p.n.y.num<0)),n2,d2]) p.n.y∧Qn w (.agg #[.bool (decide (p.n.z.num<0)),n3,d3]) p.n.z∧Qn w (.agg #[.bool b4,n4,d4]) p.c
theorem Pn.below {w w1 : World} {u : Value} {p : Pl} (h : Pn w u p) (g : Below w.heap.size w w1) : Pn w1 u p:=by
 obtain ⟨n1,d1,n2,d2,n3,d3,b4,n4,d4,e,h1,h2,h3,h4⟩:=h
 exact ⟨n1,d1,n2,d2,n3,d3,b4,n4,d4,e,h1.below g,h2.below g,h3.below g,h4.below g⟩
theorem Pn.open {w : World} {u : Value} {p : Pl} (h : Pn w u p) : ∃ A1 a1 B1 b1 A2 a2 B2 b2 A3 a3 B3 b3 A4 a4 B4 b4,
  u=.agg #[.bool (decide (p.n.x.num<0)),.slice A1 (wds p.n.x.num.natAbs).length a1,.slice B1 (wds p.n.x.den).length b1,.bool (decide (p.n.y.num<0)),.slice A2 (wds p.n.y.num.natAbs).length a2,.slice B2 (wds p.n.y.den).length b2,.bool (decide (p.n.z.num<0)),.slice A3 (wds p.n.z.num.natAbs).length a3,.slice B3 (wds p.n.z.den).length b3,.bool (decide (p.c.num<0)),.slice A4 (wds p.c.num.natAbs).length a4,.slice B4 (wds p.c.den).length b4] ∧
  Qn w (.agg #[.bool (decide (p.n.x.num<0)),.slice A1 (wds p.n.x.num.natAbs).length a1,.slice B1 (wds p.n.x.den).length b1]) p.n.x∧Qn w (.agg #[.bool (decide (p.n.y.num<0)),.slice A2 (wds p.n.y.num.natAbs).length a2,.slice B2 (wds p.n.y.den).length b2]) p.n.y∧Qn w (.agg #[.bool (decide (p.n.z.num<0)),.slice A3 (wds p.n.z.num.natAbs).length a3,.slice B3 (wds p.n.z.den).length b3]) p.n.z∧Qn w (.agg #[.bool (decide (p.c.num<0)),.slice A4 (wds p.c.num.natAbs).length a4,.slice B4 (wds p.c.den).length b4]) p.c:=by
 obtain ⟨n1,d1,n2,d2,n3,d3,b4,n4,d4,e,h1,h2,h3,h4⟩:=h
 obtain ⟨A1,a1,B1,b1,rfl,rfl⟩:=h1.parts
 obtain ⟨A2,a2,B2,b2,rfl,rfl⟩:=h2.parts
 obtain ⟨A3,a3,B3,b3,rfl,rfl⟩:=h3.parts
 obtain ⟨A4,a4,B4,b5,rfl,rfl⟩:=h4.parts
 obtain rfl:=qn_bool h4
 exact ⟨_,_,_,_,_,_,_,_,_,_,_,_,_,_,_,_,e,h1,h2,h3,h4⟩
theorem pn_mk {w : World} {b1 b2 b3 b4 : Bool} {n1 d1 n2 d2 n3 d3 n4 d4 : Value} {p : Pl} (a : Qn w (.agg #[.bool b1,n1,d1]) p.n.x) (b : Qn w (.agg #[.bool b2,n2,d2]) p.n.y) (c : Qn w (.agg #[.bool b3,n3,d3]) p.n.z) (d : Qn w (.agg #[.bool b4,n4,d4]) p.c) : Pn w (.agg #[.bool b1,n1,d1,.bool b2,n2,d2,.bool b3,n3,d3,.bool b4,n4,d4]) p:=by
 obtain rfl:=qn_bool a
 obtain rfl:=qn_bool b
 obtain rfl:=qn_bool c
 exact ⟨n1,d1,n2,d2,n3,d3,b4,n4,d4,rfl,a,b,c,d⟩
set_option maxRecDepth 100000 in
set_option maxHeartbeats 4000000 in
theorem wHeight_walk (up ua : Value) (p : Pl) (a : V3) (w : World) (hp : Pn w up p) (ha : Vn w ua a) (bp : p.le 1000000) (ba0 : a.le 1000000) :
  Calls Tryz.prog 120 #[up,ua] w (Ret fun v' w'=>Qn w' v' (p.height a)∧Below w.heap.size w w'):=by
 obtain ⟨pA1,pa1,pB1,pb1,pA2,pa2,pB2,pb2,pA3,pa3,pB3,pb3,pA4,pa4,pB4,pb4,hzp,hp1,hp2,hp3,hp4⟩:=hp.open
 subst hzp
 obtain ⟨qA1,qa1,qB1,qb1,qA2,qa2,qB2,qb2,qA3,qa3,qB3,qb3,hzq,hq1,hq2,hq3⟩:=ha.open
 subst hzq
 clear hp ha
 have hd:=rz_dot bp.1 ba0 (n:=6000002) (by omega)
 have HC0 : Hid (∀ u v W,Vn W u p.n→Vn W v a→Calls Tryz.prog 118 #[u,v] W (Ret fun v' w'=>Qn w' v' (p.n.dot a)∧Below W.heap.size W w')):=Lib.hid (fun u v W h g=>wInner_walk u v _ _ W h g bp.1 ba0)
 have HC1 : Hid (∀ u v W,Qn W u (p.n.dot a)→Qn W v p.c→Calls Tryz.prog 98 #[u,v] W (Ret fun v' w'=>Qn w' v' (p.n.dot a - p.c)∧Below W.heap.size W w')):=Lib.hid (fun u v W h g=>qSub_walk u v _ _ W h g (Nat.le_trans hd (by omega)) (Nat.le_trans bp.2 (by omega)))
 have hres : p.height a=p.n.dot a - p.c:=rfl
 rw [hres]
 have HVP:=Lib.hid (fun W (h1 : Qn W (.agg #[.bool (decide (p.n.x.num<0)),.slice pA1 (wds p.n.x.num.natAbs).length pa1,.slice pB1 (wds p.n.x.den).length pb1]) p.n.x) (h2 : Qn W (.agg #[.bool (decide (p.n.y.num<0)),.slice pA2 (wds p.n.y.num.natAbs).length pa2,.slice pB2 (wds p.n.y.den).length pb2]) p.n.y) (h3 : Qn W (.agg #[.bool (decide (p.n.z.num<0)),.slice pA3 (wds p.n.z.num.natAbs).length pa3,.slice pB3 (wds p.n.z.den).length pb3]) p.n.z)=>(show Vn W (.agg #[.bool (decide (p.n.x.num<0)),.slice pA1 (wds p.n.x.num.natAbs).length pa1,.slice pB1 (wds p.n.x.den).length pb1,.bool (decide (p.n.y.num<0)),.slice pA2 (wds p.n.y.num.natAbs).length pa2,.slice pB2 (wds p.n.y.den).length pb2,.bool (decide (p.n.z.num<0)),.slice pA3 (wds p.n.z.num.natAbs).length pa3,.slice pB3 (wds p.n.z.den).length pb3]) p.n from vn_mk2 h1 h2 h3))
 have HVA:=Lib.hid (fun W (h1 : Qn W (.agg #[.bool (decide (a.x.num<0)),.slice qA1 (wds a.x.num.natAbs).length qa1,.slice qB1 (wds a.x.den).length qb1]) a.x) (h2 : Qn W (.agg #[.bool (decide (a.y.num<0)),.slice qA2 (wds a.y.num.natAbs).length qa2,.slice qB2 (wds a.y.den).length qb2]) a.y) (h3 : Qn W (.agg #[.bool (decide (a.z.num<0)),.slice qA3 (wds a.z.num.natAbs).length qa3,.slice qB3 (wds a.z.den).length qb3]) a.z)=>(show Vn W (.agg #[.bool (decide (a.x.num<0)),.slice qA1 (wds a.x.num.natAbs).length qa1,.slice qB1 (wds a.x.den).length qb1,.bool (decide (a.y.num<0)),.slice qA2 (wds a.y.num.natAbs).length qa2,.slice qB2 (wds a.y.den).length qb2,.bool (decide (a.z.num<0)),.slice qA3 (wds a.z.num.natAbs).length qa3,.slice qB3 (wds a.z.den).length qb3]) a from vn_mk2 h1 h2 h3))
 clear hres hd bp ba0
 generalize decide (p.n.x.num<0)=sp1 at *
 generalize decide (p.n.y.num<0)=sp2 at *
 generalize decide (p.n.z.num<0)=sp3 at *
 generalize decide (p.c.num<0)=sp4 at *
 generalize decide (a.x.num<0)=sq1 at *
 generalize decide (a.y.num<0)=sq2 at *
 generalize decide (a.z.num<0)=sq3 at *
 generalize p.n.dot a - p.c=q1 at *
 generalize p.n.dot a=q0 at *
 go_enter Tryz.func120,Tryz.ntmps120
 go_wp2
 have BKp : Bk (((w.alloc (.cells #[.bool sp1,.slice pA1 (wds p.n.x.num.natAbs).length pa1,.slice pB1 (wds p.n.x.den).length pb1,.bool sp2,.slice pA2 (wds p.n.y.num.natAbs).length pa2,.slice pB2 (wds p.n.y.den).length pb2,.bool sp3,.slice pA3 (wds p.n.z.num.natAbs).length pa3,.slice pB3 (wds p.n.z.den).length pb3,.bool sp4,.slice pA4 (wds p.c.num.natAbs).length pa4,.slice pB4 (wds p.c.den).length pb4] 160)).alloc (.cells #[.bool sq1,.slice qA1 (wds a.x.num.natAbs).length qa1,.slice qB1 (wds a.x.den).length qb1,.bool sq2,.slice qA2 (wds a.y.num.natAbs).length qa2,.slice qB2 (wds a.y.den).length qb2,.bool sq3,.slice qA3 (wds a.z.num.natAbs).length qa3,.slice qB3 (wds a.z.den).length qb3] 86)).alloc (.cells #[.bool false,.slice none 0 0,.slice none 0 0] 84)) (w.heap.size) [.bool sp1,.slice pA1 (wds p.n.x.num.natAbs).length pa1,.slice pB1 (wds p.n.x.den).length pb1,.bool sp2,.slice pA2 (wds p.n.y.num.natAbs).length pa2,.slice pB2 (wds p.n.y.den).length pb2,.bool sp3,.slice pA3 (wds p.n.z.num.natAbs).length pa3,.slice pB3 (wds p.n.z.den).length pb3,.bool sp4,.slice pA4 (wds p.c.num.natAbs).length pa4,.slice pB4 (wds p.c.den).length pb4]:=bkk
 have BKa : Bk (((w.alloc (.cells #[.bool sp1,.slice pA1 (wds p.n.x.num.natAbs).length pa1,.slice pB1 (wds p.n.x.den).length pb1,.bool sp2,.slice pA2 (wds p.n.y.num.natAbs).length pa2,.slice pB2 (wds p.n.y.den).length pb2,.bool sp3,.slice pA3 (wds p.n.z.num.natAbs).length pa3,.slice pB3 (wds p.n.z.den).length pb3,.bool sp4,.slice pA4 (wds p.c.num.natAbs).length pa4,.slice pB4 (wds p.c.den).length pb4] 160)).alloc (.cells #[.bool sq1,.slice qA1 (wds a.x.num.natAbs).length qa1,.slice qB1 (wds a.x.den).length qb1,.bool sq2,.slice qA2 (wds a.y.num.natAbs).length qa2,.slice qB2 (wds a.y.den).length qb2,.bool sq3,.slice qA3 (wds a.z.num.natAbs).length qa3,.slice qB3 (wds a.z.den).length qb3] 86)).alloc (.cells #[.bool false,.slice none 0 0,.slice none 0 0] 84)) (w.heap.size+1) [.bool sq1,.slice qA1 (wds a.x.num.natAbs).length qa1,.slice qB1 (wds a.x.den).length qb1,.bool sq2,.slice qA2 (wds a.y.num.natAbs).length qa2,.slice qB2 (wds a.y.den).length qb2,.bool sq3,.slice qA3 (wds a.z.num.natAbs).length qa3,.slice qB3 (wds a.z.den).length qb3]:=bkk
 have BZ : Bk (((w.alloc (.cells #[.bool sp1,.slice pA1 (wds p.n.x.num.natAbs).length pa1,.slice pB1 (wds p.n.x.den).length pb1,.bool sp2,.slice pA2 (wds p.n.y.num.natAbs).length pa2,.slice pB2 (wds p.n.y.den).length pb2,.bool sp3,.slice pA3 (wds p.n.z.num.natAbs).length pa3,.slice pB3 (wds p.n.z.den).length pb3,.bool sp4,.slice pA4 (wds p.c.num.natAbs).length pa4,.slice pB4 (wds p.c.den).length pb4] 160)).alloc (.cells #[.bool sq1,.slice qA1 (wds a.x.num.natAbs).length qa1,.slice qB1 (wds a.x.den).length qb1,.bool sq2,.slice qA2 (wds a.y.num.natAbs).length qa2,.slice qB2 (wds a.y.den).length qb2,.bool sq3,.slice qA3 (wds a.z.num.natAbs).length qa3,.slice qB3 (wds a.z.den).length qb3] 86)).alloc (.cells #[.bool false,.slice none 0 0,.slice none 0 0] 84)) (w.heap.size+1+1) [.bool false,.slice none 0 0,.slice none 0 0]:=bkk
 have BB : Below w.heap.size w (((w.alloc (.cells #[.bool sp1,.slice pA1 (wds p.n.x.num.natAbs).length pa1,.slice pB1 (wds p.n.x.den).length pb1,.bool sp2,.slice pA2 (wds p.n.y.num.natAbs).length pa2,.slice pB2 (wds p.n.y.den).length pb2,.bool sp3,.slice pA3 (wds p.n.z.num.natAbs).length pa3,.slice pB3 (wds p.n.z.den).length pb3,.bool sp4,.slice pA4 (wds p.c.num.natAbs).length pa4,.slice pB4 (wds p.c.den).length pb4] 160)).alloc (.cells #[.bool sq1,.slice qA1 (wds a.x.num.natAbs).length qa1,.slice qB1 (wds a.x.den).length qb1,.bool sq2,.slice qA2 (wds a.y.num.natAbs).length qa2,.slice qB2 (wds a.y.den).length qb2,.bool sq3,.slice qA3 (wds a.z.num.natAbs).length qa3,.slice qB3 (wds a.z.den).length qb3] 86)).alloc (.cells #[.bool false,.slice none 0 0,.slice none 0 0] 84)):=bel
 generalize hWe : ((w.alloc (.cells #[.bool sp1,.slice pA1 (wds p.n.x.num.natAbs).length pa1,.slice pB1 (wds p.n.x.den).length pb1,.bool sp2,.slice pA2 (wds p.n.y.num.natAbs).length pa2,.slice pB2 (wds p.n.y.den).length pb2,.bool sp3,.slice pA3 (wds p.n.z.num.natAbs).length pa3,.slice pB3 (wds p.n.z.den).length pb3,.bool sp4,.slice pA4 (wds p.c.num.natAbs).length pa4,.slice pB4 (wds p.c.den).length pb4] 160)).alloc (.cells #[.bool sq1,.slice qA1 (wds a.x.num.natAbs).length qa1,.slice qB1 (wds a.x.den).length qb1,.bool sq2,.slice qA2 (wds a.y.num.natAbs).length qa2,.slice qB2 (wds a.y.den).length qb2,.bool sq3,.slice qA3 (wds a.z.num.natAbs).length qa3,.slice qB3 (wds a.z.den).length qb3] 86)).alloc (.cells #[.bool false,.slice none 0 0,.slice none 0 0] 84)=W at *
 clear hWe
 refine wp_region_held_drew (S:=fun w'=>w'.cell? ⟨w.heap.size,0,none⟩=some (.bool sp1)∧w'.cell? ⟨w.heap.size,1,none⟩=some (.slice pA1 (wds p.n.x.num.natAbs).length pa1)∧w'.cell? ⟨w.heap.size,2,none⟩=some (.slice pB1 (wds p.n.x.den).length pb1)∧w'.cell? ⟨w.heap.size,3,none⟩=some (.bool sp2)∧w'.cell? ⟨w.heap.size,4,none⟩=some (.slice pA2 (wds p.n.y.num.natAbs).length pa2)∧w'.cell? ⟨w.heap.size,5,none⟩=some (.slice pB2 (wds p.n.y.den).length pb2)∧w'.cell? ⟨w.heap.size,6,none⟩=some (.bool sp3)∧w'.cell? ⟨w.heap.size,7,none⟩=some (.slice pA3 (wds p.n.z.num.natAbs).length pa3)∧w'.cell? ⟨w.heap.size,8,none⟩=some (.slice pB3 (wds p.n.z.den).length pb3)∧w'.cell? ⟨w.heap.size,9,none⟩=some (.bool sp4)∧w'.cell? ⟨w.heap.size,10,none⟩=some (.slice pA4 (wds p.c.num.natAbs).length pa4)∧w'.cell? ⟨w.heap.size,11,none⟩=some (.slice pB4 (wds p.c.den).length pb4)∧w'.cell? ⟨w.heap.size+1,0,none⟩=some (.bool sq1)∧w'.cell? ⟨w.heap.size+1,1,none⟩=some (.slice qA1 (wds a.x.num.natAbs).length qa1)∧w'.cell? ⟨w.heap.size+1,2,none⟩=some (.slice qB1 (wds a.x.den).length qb1)∧w'.cell? ⟨w.heap.size+1,3,none⟩=some (.bool sq2)∧w'.cell? ⟨w.heap.size+1,4,none⟩=some (.slice qA2 (wds a.y.num.natAbs).length qa2)∧w'.cell? ⟨w.heap.size+1,5,none⟩=some (.slice qB2 (wds a.y.den).length qb2)∧w'.cell? ⟨w.heap.size+1,6,none⟩=some (.bool sq3)∧w'.cell? ⟨w.heap.size+1,7,none⟩=some (.slice qA3 (wds a.z.num.natAbs).length qa3)∧w'.cell? ⟨w.heap.size+1,8,none⟩=some (.slice qB3 (wds a.z.den).length qb3)∧Below w.heap.size w w') (by kernel_rfl) ?_ (fun hHeld=>?_)
 ·exact ⟨bc (bd (br _)) (BKp.cell 0 _ rfl),bc (bd (br _)) (BKp.cell 1 _ rfl),bc (bd (br _)) (BKp.cell 2 _ rfl),bc (bd (br _)) (BKp.cell 3 _ rfl),bc (bd (br _)) (BKp.cell 4 _ rfl),bc (bd (br _)) (BKp.cell 5 _ rfl),bc (bd (br _)) (BKp.cell 6 _ rfl),bc (bd (br _)) (BKp.cell 7 _ rfl),bc (bd (br _)) (BKp.cell 8 _ rfl),bc (bd (br _)) (BKp.cell 9 _ rfl),bc (bd (br _)) (BKp.cell 10 _ rfl),bc (bd (br _)) (BKp.cell 11 _ rfl),bc (bd (br _)) (BKa.cell 0 _ rfl),bc (bd (br _)) (BKa.cell 1 _ rfl),bc (bd (br _)) (BKa.cell 2 _ rfl),bc (bd (br _)) (BKa.cell 3 _ rfl),bc (bd (br _)) (BKa.cell 4 _ rfl),bc (bd (br _)) (BKa.cell 5 _ rfl),bc (bd (br _)) (BKa.cell 6 _ rfl),bc (bd (br _)) (BKa.cell 7 _ rfl),bc (bd (br _)) (BKa.cell 8 _ rfl),bd BB⟩
 clear BKp BKa
 refine wtk 0 (.pointer (some ⟨w.heap.size,0,none⟩)) rfl rfl (fun w' hS=>?_) hHeld ?_
 ·(try dsimp only at hS); go_split_ands; go_simp
 try simp only [Act.put,lsx]
 refine wtk 1 (.agg #[.bool sp1,.slice pA1 (wds p.n.x.num.natAbs).length pa1,.slice pB1 (wds p.n.x.den).length pb1,.bool sp2,.slice pA2 (wds p.n.y.num.natAbs).length pa2,.slice pB2 (wds p.n.y.den).length pb2,.bool sp3,.slice pA3 (wds p.n.z.num.natAbs).length pa3,.slice pB3 (wds p.n.z.den).length pb3]) rfl rfl (fun w' hS=>?_) hHeld ?_
 ·(try dsimp only at hS); go_split_ands; go_simp
 try simp only [Act.put,lsx]
 refine wtk 2 (.agg #[.bool sq1,.slice qA1 (wds a.x.num.natAbs).length qa1,.slice qB1 (wds a.x.den).length qb1,.bool sq2,.slice qA2 (wds a.y.num.natAbs).length qa2,.slice qB2 (wds a.y.den).length qb2,.bool sq3,.slice qA3 (wds a.z.num.natAbs).length qa3,.slice qB3 (wds a.z.den).length qb3]) rfl rfl (fun w' hS=>?_) hHeld ?_
 ·(try dsimp only at hS); go_split_ands; go_simp
 try simp only [Act.put,lsx]
 refine wtk 4 (.pointer (some ⟨w.heap.size,9,none⟩)) rfl rfl (fun w' hS=>?_) hHeld ?_
 ·(try dsimp only at hS); go_split_ands; go_simp
 try simp only [Act.put,lsx]
 refine wtk 5 (.agg #[.bool sp4,.slice pA4 (wds p.c.num.natAbs).length pa4,.slice pB4 (wds p.c.den).length pb4]) rfl rfl (fun w' hS=>?_) hHeld ?_
 ·(try dsimp only at hS); go_split_ands; go_simp
 try simp only [Act.put,lsx]
 refine wrd 3 rfl (fun K hK=>?_)
 rw [if_pos (by rfl)]
 go_wp2_with fail
 obtain ⟨s0_,s1_,s2_,s3_,s4_,s5_,s6_,s7_,s8_,s9_,s10_,s11_,s12_,s13_,s14_,s15_,s16_,s17_,s18_,s19_,s20_,s21_⟩:=hHeld
 have hL:=s21_
 have RR:=Bk.drew BZ
 refine (HC0.out _ _ _ (HVP.out _ (hp1.below hL) (hp2.below hL) (hp3.below hL)) (HVA.out _ (hq1.below hL) (hq2.below hL) (hq3.below hL))).mono ?_
 rintro e w1 ⟨v0,rfl,r0,g⟩
 obtain ⟨A0,a0,B0,b0,hE,_⟩:=r0.open
 subst hE
 have R1:=Bk.below RR g
 refine hK.out _ _ ⟨bc g s0_,bc g s1_,bc g s2_,bc g s3_,bc g s4_,bc g s5_,bc g s6_,bc g s7_,bc g s8_,bc g s9_,bc g s10_,bc g s11_,bc g s12_,bc g s13_,bc g s14_,bc g s15_,bc g s16_,bc g s17_,bc g s18_,bc g s19_,bc g s20_,bn s21_ g⟩ (fun hHeld=>?_)
 clear g hL RR s0_ s1_ s2_ s3_ s4_ s5_ s6_ s7_ s8_ s9_ s10_ s11_ s12_ s13_ s14_ s15_ s16_ s17_ s18_ s19_ s20_ s21_
 clear hK K
 try simp only [Act.put,lsx]
 refine wrd 6 rfl (fun K hK=>?_)
 rw [if_pos (by rfl)]
 go_wp2_with fail
 obtain ⟨s0_,s1_,s2_,s3_,s4_,s5_,s6_,s7_,s8_,s9_,s10_,s11_,s12_,s13_,s14_,s15_,s16_,s17_,s18_,s19_,s20_,s21_⟩:=hHeld
 have hL:=s21_
 have RR:=R1
 refine (HC1.out _ _ _ r0 (hp4.below hL)).mono ?_
 rintro e w2 ⟨v1,rfl,r1,g⟩
 obtain ⟨A1,a1,B1,b1,hE,_⟩:=r1.open
 subst hE
 have R2:=Bk.below RR g
 replace r0:=Qn.below r0 g
 refine hK.out _ _ ⟨bc g s0_,bc g s1_,bc g s2_,bc g s3_,bc g s4_,bc g s5_,bc g s6_,bc g s7_,bc g s8_,bc g s9_,bc g s10_,bc g s11_,bc g s12_,bc g s13_,bc g s14_,bc g s15_,bc g s16_,bc g s17_,bc g s18_,bc g s19_,bc g s20_,bn s21_ g⟩ (fun hHeld=>?_)
 clear g hL RR s0_ s1_ s2_ s3_ s4_ s5_ s6_ s7_ s8_ s9_ s10_ s11_ s12_ s13_ s14_ s15_ s16_ s17_ s18_ s19_ s20_ s21_
 clear hK K
 try simp only [Act.put,lsx]
 refine wrd 7 rfl (fun K hK=>?_)
 obtain ⟨s0_,s1_,s2_,s3_,s4_,s5_,s6_,s7_,s8_,s9_,s10_,s11_,s12_,s13_,s14_,s15_,s16_,s17_,s18_,s19_,s20_,s21_⟩:=hHeld
 refine step_store_row (w0:=w) (B:=w.heap.size) (b:=w.heap.size+1+1) (cs:=[.bool (decide (q1.num<0)),.slice A1 (wds q1.num.natAbs).length a1,.slice B1 (wds q1.den).length b1]) (by rfl) 84 (.tmp 4) (.tmp 11) (by rfl) (by rfl) (by rfl) R2 (by rfl) (by simp) (by rfl) (by kernel_rfl) s21_ (by omega) ?_
 intro W4 K4 G4 KP4 FR4
 refine hK.out _ _ ⟨FR4 _ _ _ (by omega) s0_,FR4 _ _ _ (by omega) s1_,FR4 _ _ _ (by omega) s2_,FR4 _ _ _ (by omega) s3_,FR4 _ _ _ (by omega) s4_,FR4 _ _ _ (by omega) s5_,FR4 _ _ _ (by omega) s6_,FR4 _ _ _ (by omega) s7_,FR4 _ _ _ (by omega) s8_,FR4 _ _ _ (by omega) s9_,FR4 _ _ _ (by omega) s10_,FR4 _ _ _ (by omega) s11_,FR4 _ _ _ (by omega) s12_,FR4 _ _ _ (by omega) s13_,FR4 _ _ _ (by omega) s14_,FR4 _ _ _ (by omega) s15_,FR4 _ _ _ (by omega) s16_,FR4 _ _ _ (by omega) s17_,FR4 _ _ _ (by omega) s18_,FR4 _ _ _ (by omega) s19_,FR4 _ _ _ (by omega) s20_,G4⟩ (fun hHeld=>?_)
 clear hK K
 try simp only [Act.put,lsx]
 refine wpAnyH_done (by kernel_rfl) ?_ _
 clear hHeld
 obtain ⟨m0,m1,m2, -⟩:=K4.c3
 go_wp2
 refine bodyPost_ret (v:=.agg #[.bool (decide (q1.num<0)),.slice A1 (wds q1.num.natAbs).length a1,.slice B1 (wds q1.den).length b1]) (by simp [results,Tryz.results120,go_sem, *]) rfl ?_
 exact ⟨_,rfl,r1.keep KP4,G4⟩
theorem num_sign (r : Rat) : r.num.sign=rsg r:=by
 unfold rsg rcmp
 have h1:=@Rat.num_nonneg r
 have h2:=@Rat.num_eq_zero r
 by_cases a : r<0
 ·rw [if_pos a]
  have : ¬ 0≤r.num:=fun h=>by have:=h1.1 h; grind
  exact Int.sign_eq_neg_one_iff_neg.2 (by omega)
 ·rw [if_neg a]
  by_cases b : r=0
  ·rw [if_pos b,b]; rfl
  ·rw [if_neg b]
   have h3 : 0≤r.num:=h1.2 (by grind)
   have h4 : r.num≠0:=fun h=>b (h2.1 h)
   exact Int.sign_eq_one_iff_pos.2 (by omega)
theorem qSign_rsg (x : Value) (r : Rat) (w : World) (h : Qn w x r) :
  Calls Tryz.prog 63 #[x] w fun e w'=>e=.returned (.int .i64 (rsg r))∧Below w.heap.size w w':=by
 rw [← num_sign]
 exact qSign_walk x r w h
theorem rsg_zero {x : Rat} : rsg x=0↔x=0:=by
 unfold rsg rcmp
 by_cases h1 : x<0
 ·rw [if_pos h1]
  exact ⟨fun h=>by omega,fun h=>by rw [h] at h1; exact absurd h1 (by decide +kernel)⟩
 ·by_cases h2 : x=0
  ·rw [if_neg h1,if_pos h2]; exact ⟨fun _=>h2,fun _=>rfl⟩
  ·rw [if_neg h1,if_neg h2]
   exact ⟨fun h=>by omega,fun h=>absurd h h2⟩
theorem v3_zero (v : V3) : v=V3.zero↔rsg v.x=0∧rsg v.y=0∧rsg v.z=0:=by
 obtain ⟨x,y,z⟩:=v
 rw [rsg_zero,rsg_zero,rsg_zero]
 unfold V3.zero
 simp
set_option maxRecDepth 100000 in
set_option maxHeartbeats 4000000 in
theorem wZero_walk (u : Value) (v : V3) (w : World) (hv : Vn w u v) :
  Calls Tryz.prog 117 #[u] w fun e w'=>e=.returned (.bool (decide (v=V3.zero)))∧Below w.heap.size w w':=by
 obtain ⟨A1,a1,B1,b1,A2,a2,B2,b2,A3,a3,B3,b3,hz,h1,h2,h3⟩:=hv.open
 subst hz
 clear hv
 have H1:=Lib.hid (fun u W (h : Qn W u v.x)=>qSign_rsg u v.x W h)
 have H2:=Lib.hid (fun u W (h : Qn W u v.y)=>qSign_rsg u v.y W h)
 have H3:=Lib.hid (fun u W (h : Qn W u v.z)=>qSign_rsg u v.z W h)
 have HT : Hid (rsg v.x=0→rsg v.y=0→rsg v.z=0→decide (v=V3.zero)=true):=Lib.hid (fun a b c=>decide_eq_true ((v3_zero v).2 ⟨a,b,c⟩))
 have HF : Hid (rsg v.x≠0∨rsg v.y≠0∨rsg v.z≠0→decide (v=V3.zero)=false):=Lib.hid (fun h=>decide_eq_false (fun e=>by
  obtain ⟨a,b,c⟩:=(v3_zero v).1 e
  rcases h with h | h | h
  ·exact h a
  ·exact h b
  ·exact h c))
 generalize decide (v=V3.zero)=r at *
 generalize rsg v.x=s1 at *
 generalize rsg v.y=s2 at *
 generalize rsg v.z=s3 at *
 go_enter Tryz.func117,Tryz.ntmps117
 go_wp2_with fail
 refine (H1.out _ _ (h1.below bel)).mono ?_
 rintro e w1 ⟨rfl,g1⟩
 have K1 : Bk w1 (w.heap.size) [.bool (decide (v.x.num<0)),.slice A1 (wds v.x.num.natAbs).length a1,.slice B1 (wds v.x.den).length b1,.bool (decide (v.y.num<0)),.slice A2 (wds v.y.num.natAbs).length a2,.slice B2 (wds v.y.den).length b2,.bool (decide (v.z.num<0)),.slice A3 (wds v.z.num.natAbs).length a3,.slice B3 (wds v.z.den).length b3]:=Bk.below bkk g1
 have B1:=bn (w:=w) bel g1
 clear g1
 obtain ⟨⟨c0,c1,c2,c3,c4,c5,c6,c7,c8⟩, -⟩:=K1.c9
 by_cases e1 : s1=0
 ·subst e1
  go_wp2_with fail
  refine (H2.out _ _ (h2.below bel)).mono ?_
  rintro e w2 ⟨rfl,g2⟩
  have K2:=Bk.below K1 g2
  have B2:=bn (w:=w) bel g2
  clear g2
  clear c0 c1 c2 c3 c4 c5 c6 c7 c8
  obtain ⟨⟨c0,c1,c2,c3,c4,c5,c6,c7,c8⟩, -⟩:=K2.c9
  by_cases e2 : s2=0
  ·subst e2
   go_wp2_with fail
   refine (H3.out _ _ (h3.below bel)).mono ?_
   rintro e w3 ⟨rfl,g3⟩
   have B3:=bn (w:=w) bel g3
   clear g3
   by_cases e3 : s3=0
   ·subst e3
    have E:=Lib.hid (HT.out (by simp) (by simp) (by simp))
    clear HT HF
    go_wp2
    go_ret
    exact ⟨by rw [E.out]; rfl,bel⟩
   ·have ne3 : (s3 == 0)=false:=by simp [e3]
    have E:=Lib.hid (HF.out (.inr (.inr e3)))
    clear HT HF
    go_wp2
    go_ret
    exact ⟨by rw [E.out]; rfl,bel⟩
  ·have ne2 : (s2 == 0)=false:=by simp [e2]
   have E:=Lib.hid (HF.out (.inr (.inl e2)))
   clear HT HF
   go_wp2
   go_ret
   exact ⟨by rw [E.out]; rfl,bel⟩
 ·have ne1 : (s1 == 0)=false:=by simp [e1]
  have E:=Lib.hid (HF.out (.inl e1))
  clear HT HF
  go_wp2
  go_ret
  exact ⟨by rw [E.out]; rfl,bel⟩
end Go.Proofs.YtbnbaokamccmjaaGreatDoor

/- garboardref11: Through. -/
namespace Go.Proofs.YtbnbaokamccmjaaGreatDoor
open Go Go.RowKit
theorem Bk.rng {w : World} {p : Nat} {xs : List Value} (h : Bk w p xs) : w.rangeAt p 0 xs:=fun j v hv=>by
 rw [Nat.zero_add]
 exact h.cell j v hv
section
variable {ops : Array Oper} {o : Oper} {a : Act} {K : Act→World→Prop} {Q : Exit→Act→World→Prop} {E : Prop} {S : World→Prop}
theorem ld_v (hw : Region.wanted o (yielded ops a.tmps)=true) (x : Operand) (ho : o.op=.load 86 x) (b : Nat) (hx : a.eval x=.pointer (some ⟨b,0,none⟩)) (c : List Value) (h9 : c.length=9) (hS : ∀ w,S w→Bk w b c) : YieldsIf Tryz.prog ops S o (.agg c.toArray) a :=
 yieldsIf_load_mid hw _ x ho b 0 hx c _ (fun w h=>(hS w h).rng) Tryz.underlying86 rfl (by rw [h9]; kernel_rfl)
theorem st_v {w0 X : World} {B b : Nat} {vs c : List Value} {p : V3} (hgd : o.guard=none) (x y : Operand) (ho : o.op=.store 86 x y) (hx : a.eval x=.pointer (some ⟨b,0,none⟩)) (hy : a.eval y=.agg c.toArray) (hb : Bk X b vs) (hl : vs.length=9) (hn : ∀ k i,(Value.int k i) ∉ vs) (hc : VC X c p) (HB : Below B w0 X) (hB : B≤b)
  (h : ∀ X',Bk X' b c→VC X' c p→Below B w0 X'→Keep X X'→(∀ q us,q≠b→Bk X q us→Bk X' q us)→K (a.put o.dst undef) X') :
  if Region.wanted o (yielded ops a.tmps)=true then Oper.wp Tryz.prog o a X K Q else E :=
 step_store_row2 hgd _ x y ho hx hy hb (by rw [hc.len,hl]) hn (List.all_eq_true.2 hc.one) (by rw [hc.len]; kernel_rfl) HB hB (fun X' k1 k2 k3 k4 k5=>h X' k1 (hc.keep k3) k2 k3 k5)
end
theorem z9_noint : ∀ k i,(Value.int k i) ∉ ([.bool false,.slice none 0 0,.slice none 0 0,.bool false,.slice none 0 0,.slice none 0 0,.bool false,.slice none 0 0,.slice none 0 0] : List Value):=by intro k i h; simp at h
theorem vc_mk {w : World} {A1 B1 A2 B2 A3 B3 : Option Addr} {a1 b1 a2 b2 a3 b3 : Nat} {p : V3} (h1 : Qn w (.agg #[.bool (decide (p.x.num<0)),.slice A1 (wds p.x.num.natAbs).length a1,.slice B1 (wds p.x.den).length b1]) p.x) (h2 : Qn w (.agg #[.bool (decide (p.y.num<0)),.slice A2 (wds p.y.num.natAbs).length a2,.slice B2 (wds p.y.den).length b2]) p.y) (h3 : Qn w (.agg #[.bool (decide (p.z.num<0)),.slice A3 (wds p.z.num.natAbs).length a3,.slice B3 (wds p.z.den).length b3]) p.z) : VC w [.bool (decide (p.x.num<0)),.slice A1 (wds p.x.num.natAbs).length a1,.slice B1 (wds p.x.den).length b1,.bool (decide (p.y.num<0)),.slice A2 (wds p.y.num.natAbs).length a2,.slice B2 (wds p.y.den).length b2,.bool (decide (p.z.num<0)),.slice A3 (wds p.z.num.natAbs).length a3,.slice B3 (wds p.z.den).length b3] p:=⟨A1,a1,B1,b1,A2,a2,B2,b2,A3,a3,B3,b3,rfl,vn_mk h1 h2 h3⟩
set_option maxRecDepth 100000 in
set_option maxHeartbeats 4000000 in
theorem wthrough_no (a1 a2 a3 b1 b2 b3 c1 c2 c3 m1 m2 m3 m4 : ByteArray) (a b c d f n : V3) (k : Rat) (w : World)
  (hb : ∀ w,Calls Tryz.prog 90 #[.agg #[.string a1,.string a2,.string a3],.agg #[.string b1,.string b2,.string b3]] w fun e w'=>∃ z1 z2,e=.returned (.tuple #[z1,z2,.int .i64 0])∧Vn w' z1 a∧Vn w' z2 b∧Below w.heap.size w w')
  (hf : ∀ w,Calls Tryz.prog 61 #[.agg #[.string c1,.string c2,.string c3]] w fun e w'=>VB true c w w' e)
  (h1 : ∀ u v w,Vn w u b→Vn w v a→Calls Tryz.prog 62 #[u,v] w (Ret fun v' w'=>Vn w' v' d∧Below w.heap.size w w'))
  (h2 : ∀ u v w,Vn w u c→Vn w v a→Calls Tryz.prog 62 #[u,v] w (Ret fun v' w'=>Vn w' v' f∧Below w.heap.size w w'))
  (h3 : ∀ u v w,Vn w u d→Vn w v f→Calls Tryz.prog 116 #[u,v] w (Ret fun v' w'=>Vn w' v' n∧Below w.heap.size w w'))
  (h4 : ∀ u w,Vn w u n→Calls Tryz.prog 117 #[u] w fun e w'=>e=.returned (.bool true)∧Below w.heap.size w w')
  (h5 : ∀ u w,Vn w u n→Calls Tryz.prog 91 #[u] w fun e w'=>e=.returned (.agg #[.string m1,.string m2,.string m3])∧Below w.heap.size w w')
  (h6 : ∀ u v w,Vn w u n→Vn w v a→Calls Tryz.prog 118 #[u,v] w (Ret fun v' w'=>Qn w' v' k∧Below w.heap.size w w'))
  (h7 : ∀ u w,Qn w u k→Calls Tryz.prog 64 #[u] w fun e w'=>e=.returned (.string m4)∧Below w.heap.size w w') :
  Calls Tryz.prog 81 #[.agg #[.string a1,.string a2,.string a3],.agg #[.string b1,.string b2,.string b3],.agg #[.string c1,.string c2,.string c3]] w fun e w'=>e=.returned (.tuple #[.agg #[.string ⟨#[]⟩,.string ⟨#[]⟩,.string ⟨#[]⟩,.string ⟨#[]⟩],.int .i64 16])∧Below w.heap.size w w':=by
 have HB_:=Lib.hid hb
 clear hb
 have HF_:=Lib.hid hf
 clear hf
 have H1_:=Lib.hid h1
 clear h1
 have H2_:=Lib.hid h2
 clear h2
 have H3_:=Lib.hid h3
 clear h3
 have H4_:=Lib.hid h4
 clear h4
 have H5_:=Lib.hid h5
 clear h5
 have H6_:=Lib.hid h6
 clear h6
 have H7_:=Lib.hid h7
 clear h7
 go_enter Tryz.func81,Tryz.ntmps81
 go_wp2_with fail
 refine (HB_.out _).mono ?_
 rintro e w1 ⟨z1,z2,rfl,hx,hy,g1⟩
 obtain ⟨xA1,xa1,xB1,xb1,xA2,xa2,xB2,xb2,xA3,xa3,xB3,xb3,hE,xh1,xh2,xh3⟩:=hx.open
 subst hE
 obtain ⟨yA1,ya1,yB1,yb1,yA2,ya2,yB2,yb2,yA3,ya3,yB3,yb3,hE,yh1,yh2,yh3⟩:=hy.open
 subst hE
 have KC1 : Bk w1 (w.heap.size+1+1) [.string c1,.string c2,.string c3]:=Bk.below bkk g1
 have KR1 : Bk w1 (w.heap.size+1+1+1) [.string ⟨#[]⟩,.string ⟨#[]⟩,.string ⟨#[]⟩,.string ⟨#[]⟩]:=Bk.below bkk g1
 have BB1:=bn (w:=w) bel g1
 have zr1:=KR1.lt
 have zc1:=KC1.lt
 have zc2 : w.heap.size+1<w1.heap.size:=by omega
 have zc3 : w.heap.size<w1.heap.size:=by omega
 clear g1 hx hy
 obtain ⟨x10,x11,x12, -⟩:=KC1.c3
 go_wp2_with fail
 refine (HF_.out _).mono ?_
 rintro e w2 ⟨z3,rfl,hz,g2⟩
 obtain ⟨zA1,za1,zB1,zb1,zA2,za2,zB2,zb2,zA3,za3,zB3,zb3,hE,zh1,zh2,zh3⟩:=hz.open
 subst hE
 have KR2 : Bk w2 (w.heap.size+1+1+1) [.string ⟨#[]⟩,.string ⟨#[]⟩,.string ⟨#[]⟩,.string ⟨#[]⟩]:=Bk.below bkk g2
 have KX2 : Bk w2 (w1.heap.size) [.bool (decide (a.x.num<0)),.slice xA1 (wds a.x.num.natAbs).length xa1,.slice xB1 (wds a.x.den).length xb1,.bool (decide (a.y.num<0)),.slice xA2 (wds a.y.num.natAbs).length xa2,.slice xB2 (wds a.y.den).length xb2,.bool (decide (a.z.num<0)),.slice xA3 (wds a.z.num.natAbs).length xa3,.slice xB3 (wds a.z.den).length xb3]:=Bk.below bkk g2
 have KY2 : Bk w2 (w1.heap.size+1) [.bool (decide (b.x.num<0)),.slice yA1 (wds b.x.num.natAbs).length ya1,.slice yB1 (wds b.x.den).length yb1,.bool (decide (b.y.num<0)),.slice yA2 (wds b.y.num.natAbs).length ya2,.slice yB2 (wds b.y.den).length yb2,.bool (decide (b.z.num<0)),.slice yA3 (wds b.z.num.natAbs).length ya3,.slice yB3 (wds b.z.den).length yb3]:=Bk.below bkk g2
 have VX2 : VC w2 [.bool (decide (a.x.num<0)),.slice xA1 (wds a.x.num.natAbs).length xa1,.slice xB1 (wds a.x.den).length xb1,.bool (decide (a.y.num<0)),.slice xA2 (wds a.y.num.natAbs).length xa2,.slice xB2 (wds a.y.den).length xb2,.bool (decide (a.z.num<0)),.slice xA3 (wds a.z.num.natAbs).length xa3,.slice xB3 (wds a.z.den).length xb3] a:=(vc_mk (xh1.below bup) (xh2.below bup) (xh3.below bup)).below g2
 have VY2 : VC w2 [.bool (decide (b.x.num<0)),.slice yA1 (wds b.x.num.natAbs).length ya1,.slice yB1 (wds b.x.den).length yb1,.bool (decide (b.y.num<0)),.slice yA2 (wds b.y.num.natAbs).length ya2,.slice yB2 (wds b.y.den).length yb2,.bool (decide (b.z.num<0)),.slice yA3 (wds b.z.num.natAbs).length ya3,.slice yB3 (wds b.z.den).length yb3] b:=(vc_mk (yh1.below bup) (yh2.below bup) (yh3.below bup)).below g2
 have VZ2:=vc_mk zh1 zh2 zh3
 have BB2:=bn (w:=w) bel g2
 clear g2 hz xh1 xh2 xh3 yh1 yh2 yh3 zh1 zh2 zh3 KC1 KR1 x10 x11 x12
 go_upto_region 5 with fail
 obtain ⟨W,hW⟩ : ∃ W,W=w2.alloc (.cells #[.bool (decide (c.x.num<0)),.slice zA1 (wds c.x.num.natAbs).length za1,.slice zB1 (wds c.x.den).length zb1,.bool (decide (c.y.num<0)),.slice zA2 (wds c.y.num.natAbs).length za2,.slice zB2 (wds c.y.den).length zb2,.bool (decide (c.z.num<0)),.slice zA3 (wds c.z.num.natAbs).length za3,.slice zB3 (wds c.z.den).length zb3] 86):=⟨_,rfl⟩
 rw [← hW]
 have KX : Bk W (w1.heap.size) [.bool (decide (a.x.num<0)),.slice xA1 (wds a.x.num.natAbs).length xa1,.slice xB1 (wds a.x.den).length xb1,.bool (decide (a.y.num<0)),.slice xA2 (wds a.y.num.natAbs).length xa2,.slice xB2 (wds a.y.den).length xb2,.bool (decide (a.z.num<0)),.slice xA3 (wds a.z.num.natAbs).length xa3,.slice xB3 (wds a.z.den).length xb3]:=by rw [hW]; exact KX2.alloc _
 have KY : Bk W (w1.heap.size+1) [.bool (decide (b.x.num<0)),.slice yA1 (wds b.x.num.natAbs).length ya1,.slice yB1 (wds b.x.den).length yb1,.bool (decide (b.y.num<0)),.slice yA2 (wds b.y.num.natAbs).length ya2,.slice yB2 (wds b.y.den).length yb2,.bool (decide (b.z.num<0)),.slice yA3 (wds b.z.num.natAbs).length ya3,.slice yB3 (wds b.z.den).length yb3]:=by rw [hW]; exact KY2.alloc _
 have KZ : Bk W (w2.heap.size) [.bool (decide (c.x.num<0)),.slice zA1 (wds c.x.num.natAbs).length za1,.slice zB1 (wds c.x.den).length zb1,.bool (decide (c.y.num<0)),.slice zA2 (wds c.y.num.natAbs).length za2,.slice zB2 (wds c.y.den).length zb2,.bool (decide (c.z.num<0)),.slice zA3 (wds c.z.num.natAbs).length za3,.slice zB3 (wds c.z.den).length zb3]:=by rw [hW]; exact bk_at rfl
 have KR : Bk W (w.heap.size+1+1+1) [.string ⟨#[]⟩,.string ⟨#[]⟩,.string ⟨#[]⟩,.string ⟨#[]⟩]:=by rw [hW]; exact KR2.alloc _
 have VX:=VX2.below (w1:=W) (by rw [hW]; exact ba (br _))
 have VY:=VY2.below (w1:=W) (by rw [hW]; exact ba (br _))
 have VZ:=VZ2.below (w1:=W) (by rw [hW]; exact ba (br _))
 have BB : Below w.heap.size w W:=by rw [hW]; exact ba BB2
 have zx:=KX.lt
 have zy:=KY.lt
 have zz:=KZ.lt
 have zr:=KR.lt
 have zw:=BB1.size
 clear hW KX2 KY2 KR2 VX2 VY2 VZ2 BB2 BB1
 obtain ⟨cx,hcx⟩ : ∃ x : List Value,x=[.bool (decide (a.x.num<0)),.slice xA1 (wds a.x.num.natAbs).length xa1,.slice xB1 (wds a.x.den).length xb1,.bool (decide (a.y.num<0)),.slice xA2 (wds a.y.num.natAbs).length xa2,.slice xB2 (wds a.y.den).length xb2,.bool (decide (a.z.num<0)),.slice xA3 (wds a.z.num.natAbs).length xa3,.slice xB3 (wds a.z.den).length xb3]:=⟨_,rfl⟩
 rw [← hcx] at KX VX
 clear hcx
 obtain ⟨cy,hcy⟩ : ∃ x : List Value,x=[.bool (decide (b.x.num<0)),.slice yA1 (wds b.x.num.natAbs).length ya1,.slice yB1 (wds b.x.den).length yb1,.bool (decide (b.y.num<0)),.slice yA2 (wds b.y.num.natAbs).length ya2,.slice yB2 (wds b.y.den).length yb2,.bool (decide (b.z.num<0)),.slice yA3 (wds b.z.num.natAbs).length ya3,.slice yB3 (wds b.z.den).length yb3]:=⟨_,rfl⟩
 rw [← hcy] at KY VY
 clear hcy
 obtain ⟨cz,hcz⟩ : ∃ x : List Value,x=[.bool (decide (c.x.num<0)),.slice zA1 (wds c.x.num.natAbs).length za1,.slice zB1 (wds c.x.den).length zb1,.bool (decide (c.y.num<0)),.slice zA2 (wds c.y.num.natAbs).length za2,.slice zB2 (wds c.y.den).length zb2,.bool (decide (c.z.num<0)),.slice zA3 (wds c.z.num.natAbs).length za3,.slice zB3 (wds c.z.den).length zb3]:=⟨_,rfl⟩
 rw [← hcz] at KZ VZ
 clear hcz
 go_cut [13] (fun s13 wx=>∃ p cn,s13=.pointer (some ⟨p,0,none⟩)∧W.heap.size≤p∧Hid (Bk wx p cn∧VC wx cn n)∧Below W.heap.size W wx)
 case first =>
  refine wp_region_held_drew (S:=fun w'=>Bk w' w1.heap.size cx∧Bk w' (w1.heap.size+1) cy∧Bk w' w2.heap.size cz∧Below W.heap.size W w') (by kernel_rfl) ?_ (fun hHeld=>?_)
  ·exact ⟨KX.drew,KY.drew,KZ.drew,bd (br _)⟩
  refine wtl 0 (.agg cy.toArray) rfl (ld_v rfl (.tmp 9) rfl _ rfl cy VY.len (fun w' h=>h.2.1)) hHeld ?_
  try simp only [Act.put,lsx]
  refine wtl 1 (.agg cx.toArray) rfl (ld_v rfl (.tmp 8) rfl _ rfl cx VX.len (fun w' h=>h.1)) hHeld ?_
  try simp only [Act.put,lsx]
  refine wtl 3 (.agg cz.toArray) rfl (ld_v rfl (.tmp 11) rfl _ rfl cz VZ.len (fun w' h=>h.2.2.1)) hHeld ?_
  try simp only [Act.put,lsx]
  refine wtl 4 (.agg cx.toArray) rfl (ld_v rfl (.tmp 8) rfl _ rfl cx VX.len (fun w' h=>h.1)) hHeld ?_
  try simp only [Act.put,lsx]
  refine wpAnyH_ready (rs:=[2,7]) (by kernel_rfl) (by simp) ?_
  refine AllReadyH.cons rfl (fun K hK=>?_) (AllReadyH.cons rfl (fun K hK=>?_) AllReadyH.nil)
  ·skip
   rw [if_pos (by rfl)]
   go_wp2_with fail
   obtain ⟨s0,s1,s2,s3⟩:=hHeld
   refine (H1_.out _ _ _ (VY.below s3).vn (VX.below s3).vn).mono ?_
   rintro e v0_ ⟨z0,rfl,r0,g⟩
   obtain ⟨d0,rfl,t0⟩:=vc_of r0
   have s4 : Below W.heap.size W _:=bn s3 g
   have y0:=s4.size
   refine hK.out _ _ ⟨s0.below g,s1.below g,s2.below g,s4⟩ (fun hHeld=>?_)
   clear g r0 s0 s1 s2 s3 s4 hK K
   try simp only [Act.put,lsx]
   refine wpAnyH_ready (rs:=[5,7]) (by kernel_rfl) (by simp) ?_
   refine AllReadyH.cons rfl (fun K hK=>?_) (AllReadyH.cons rfl (fun K hK=>?_) AllReadyH.nil)
   ·skip
    rw [if_pos (by rfl)]
    go_wp2_with fail
    obtain ⟨s0,s1,s2,s3⟩:=hHeld
    refine (H2_.out _ _ _ (VZ.below s3).vn (VX.below s3).vn).mono ?_
    rintro e v1_ ⟨z1,rfl,r1,g⟩
    obtain ⟨d1,rfl,t1⟩:=vc_of r1
    replace t0:=t0.below g
    have s4 : Below W.heap.size W _:=bn s3 g
    have y1:=s4.size
    refine hK.out _ _ ⟨s0.below g,s1.below g,s2.below g,s4⟩ (fun hHeld=>?_)
    clear g r1 s0 s1 s2 s3 s4 hK K
    try simp only [Act.put,lsx]
    refine wpAnyH_ready (rs:=[6,7]) (by kernel_rfl) (by simp) ?_
    refine AllReadyH.cons rfl (fun K hK=>?_) (AllReadyH.cons rfl (fun K hK=>?_) AllReadyH.nil)
    ·skip
     rw [if_pos (by rfl)]
     go_wp2_with fail
     obtain ⟨s0,s1,s2,s3⟩:=hHeld
     refine (H3_.out _ _ _ t0.vn t1.vn).mono ?_
     rintro e v2_ ⟨z2,rfl,r2,g⟩
     obtain ⟨d2,rfl,t2⟩:=vc_of r2
     have s4 : Below W.heap.size W _:=bn s3 g
     have y2:=s4.size
     refine hK.out _ _ ⟨s0.below g,s1.below g,s2.below g,s4⟩ (fun hHeld=>?_)
     clear g r2 s0 s1 s2 s3 s4 hK K
     try simp only [Act.put,lsx]
     refine wrd 7 rfl (fun K hK=>?_)
     rw [if_pos (by rfl)]
     go_simp
     obtain ⟨s0,s1,s2,s3⟩:=hHeld
     have q:=bk_new v2_ #[.bool false,.slice none 0 0,.slice none 0 0,.bool false,.slice none 0 0,.slice none 0 0,.bool false,.slice none 0 0,.slice none 0 0] 86
     replace t2:=t2.below (ba (o:=.cells #[.bool false,.slice none 0 0,.slice none 0 0,.bool false,.slice none 0 0,.slice none 0 0,.bool false,.slice none 0 0,.slice none 0 0] 86) (br v2_))
     refine hK.out _ _ ⟨s0.alloc _,s1.alloc _,s2.alloc _,ba s3⟩ (fun hHeld=>?_)
     clear s0 s1 s2 s3 hK K
     try simp only [Act.put,lsx]
     refine wrd 8 rfl (fun K hK=>?_)
     obtain ⟨s0,s1,s2,s3⟩:=hHeld
     refine st_v (w0:=W) (B:=W.heap.size) (b:=v2_.heap.size) (c:=d2) (by rfl) (.tmp 13) (.tmp 39) (by rfl) (by rfl) (by rfl) q rfl z9_noint t2 s3 (by omega) ?_
     intro W4 K4 V4 G4 KP4 FB4
     refine hK.out _ _ ⟨FB4 _ _ (by omega) s0,FB4 _ _ (by omega) s1,FB4 _ _ (by omega) s2,G4⟩ (fun hHeld=>?_)
     clear hK K
     refine wpAnyH_done (by kernel_rfl) ?_ _
     go_wp2_with fail
     go_meet
     exact ⟨_,_,rfl,by omega,Lib.hid ⟨K4,V4⟩,G4⟩
    ·skip
     rw [if_pos (by rfl)]
     go_simp
     obtain ⟨s0,s1,s2,s3⟩:=hHeld
     have q:=bk_new v1_ #[.bool false,.slice none 0 0,.slice none 0 0,.bool false,.slice none 0 0,.slice none 0 0,.bool false,.slice none 0 0,.slice none 0 0] 86
     replace t0:=t0.below (ba (o:=.cells #[.bool false,.slice none 0 0,.slice none 0 0,.bool false,.slice none 0 0,.slice none 0 0,.bool false,.slice none 0 0,.slice none 0 0] 86) (br v1_))
     replace t1:=t1.below (ba (o:=.cells #[.bool false,.slice none 0 0,.slice none 0 0,.bool false,.slice none 0 0,.slice none 0 0,.bool false,.slice none 0 0,.slice none 0 0] 86) (br v1_))
     refine hK.out _ _ ⟨s0.alloc _,s1.alloc _,s2.alloc _,ba s3⟩ (fun hHeld=>?_)
     clear s0 s1 s2 s3 hK K
     try simp only [Act.put,lsx]
     refine wrd 6 rfl (fun K hK=>?_)
     rw [if_pos (by rfl)]
     go_wp2_with fail
     obtain ⟨s0,s1,s2,s3⟩:=hHeld
     refine (H3_.out _ _ _ t0.vn t1.vn).mono ?_
     rintro e v2_ ⟨z2,rfl,r2,g⟩
     obtain ⟨d2,rfl,t2⟩:=vc_of r2
     replace q:=Bk.below q g
     have s4 : Below W.heap.size W _:=bn s3 g
     have y2:=s4.size
     refine hK.out _ _ ⟨s0.below g,s1.below g,s2.below g,s4⟩ (fun hHeld=>?_)
     clear g r2 s0 s1 s2 s3 s4 hK K
     try simp only [Act.put,lsx]
     refine wrd 8 rfl (fun K hK=>?_)
     obtain ⟨s0,s1,s2,s3⟩:=hHeld
     refine st_v (w0:=W) (B:=W.heap.size) (b:=v1_.heap.size) (c:=d2) (by rfl) (.tmp 13) (.tmp 39) (by rfl) (by rfl) (by rfl) q rfl z9_noint t2 s3 (by omega) ?_
     intro W4 K4 V4 G4 KP4 FB4
     refine hK.out _ _ ⟨FB4 _ _ (by omega) s0,FB4 _ _ (by omega) s1,FB4 _ _ (by omega) s2,G4⟩ (fun hHeld=>?_)
     clear hK K
     refine wpAnyH_done (by kernel_rfl) ?_ _
     go_wp2_with fail
     go_meet
     exact ⟨_,_,rfl,by omega,Lib.hid ⟨K4,V4⟩,G4⟩
   ·skip
    rw [if_pos (by rfl)]
    go_simp
    obtain ⟨s0,s1,s2,s3⟩:=hHeld
    have q:=bk_new v0_ #[.bool false,.slice none 0 0,.slice none 0 0,.bool false,.slice none 0 0,.slice none 0 0,.bool false,.slice none 0 0,.slice none 0 0] 86
    replace t0:=t0.below (ba (o:=.cells #[.bool false,.slice none 0 0,.slice none 0 0,.bool false,.slice none 0 0,.slice none 0 0,.bool false,.slice none 0 0,.slice none 0 0] 86) (br v0_))
    refine hK.out _ _ ⟨s0.alloc _,s1.alloc _,s2.alloc _,ba s3⟩ (fun hHeld=>?_)
    clear s0 s1 s2 s3 hK K
    try simp only [Act.put,lsx]
    refine wrd 5 rfl (fun K hK=>?_)
    rw [if_pos (by rfl)]
    go_wp2_with fail
    obtain ⟨s0,s1,s2,s3⟩:=hHeld
    refine (H2_.out _ _ _ (VZ.below s3).vn (VX.below s3).vn).mono ?_
    rintro e v1_ ⟨z1,rfl,r1,g⟩
    obtain ⟨d1,rfl,t1⟩:=vc_of r1
    replace q:=Bk.below q g
    replace t0:=t0.below g
    have s4 : Below W.heap.size W _:=bn s3 g
    have y1:=s4.size
    refine hK.out _ _ ⟨s0.below g,s1.below g,s2.below g,s4⟩ (fun hHeld=>?_)
    clear g r1 s0 s1 s2 s3 s4 hK K
    try simp only [Act.put,lsx]
    refine wrd 6 rfl (fun K hK=>?_)
    rw [if_pos (by rfl)]
    go_wp2_with fail
    obtain ⟨s0,s1,s2,s3⟩:=hHeld
    refine (H3_.out _ _ _ t0.vn t1.vn).mono ?_
    rintro e v2_ ⟨z2,rfl,r2,g⟩
    obtain ⟨d2,rfl,t2⟩:=vc_of r2
    replace q:=Bk.below q g
    have s4 : Below W.heap.size W _:=bn s3 g
    have y2:=s4.size
    refine hK.out _ _ ⟨s0.below g,s1.below g,s2.below g,s4⟩ (fun hHeld=>?_)
    clear g r2 s0 s1 s2 s3 s4 hK K
    try simp only [Act.put,lsx]
    refine wrd 8 rfl (fun K hK=>?_)
    obtain ⟨s0,s1,s2,s3⟩:=hHeld
    refine st_v (w0:=W) (B:=W.heap.size) (b:=v0_.heap.size) (c:=d2) (by rfl) (.tmp 13) (.tmp 39) (by rfl) (by rfl) (by rfl) q rfl z9_noint t2 s3 (by omega) ?_
    intro W4 K4 V4 G4 KP4 FB4
    refine hK.out _ _ ⟨FB4 _ _ (by omega) s0,FB4 _ _ (by omega) s1,FB4 _ _ (by omega) s2,G4⟩ (fun hHeld=>?_)
    clear hK K
    refine wpAnyH_done (by kernel_rfl) ?_ _
    go_wp2_with fail
    go_meet
    exact ⟨_,_,rfl,by omega,Lib.hid ⟨K4,V4⟩,G4⟩
  ·skip
   rw [if_pos (by rfl)]
   go_simp
   obtain ⟨s0,s1,s2,s3⟩:=hHeld
   have q:=bk_new W.drew #[.bool false,.slice none 0 0,.slice none 0 0,.bool false,.slice none 0 0,.slice none 0 0,.bool false,.slice none 0 0,.slice none 0 0] 86
   refine hK.out _ _ ⟨s0.alloc _,s1.alloc _,s2.alloc _,ba s3⟩ (fun hHeld=>?_)
   clear s0 s1 s2 s3 hK K
   try simp only [Act.put,lsx]
   refine wrd 2 rfl (fun K hK=>?_)
   rw [if_pos (by rfl)]
   go_wp2_with fail
   obtain ⟨s0,s1,s2,s3⟩:=hHeld
   refine (H1_.out _ _ _ (VY.below s3).vn (VX.below s3).vn).mono ?_
   rintro e v0_ ⟨z0,rfl,r0,g⟩
   obtain ⟨d0,rfl,t0⟩:=vc_of r0
   replace q:=Bk.below q g
   have s4 : Below W.heap.size W _:=bn s3 g
   have y0:=s4.size
   refine hK.out _ _ ⟨s0.below g,s1.below g,s2.below g,s4⟩ (fun hHeld=>?_)
   clear g r0 s0 s1 s2 s3 s4 hK K
   try simp only [Act.put,lsx]
   refine wrd 5 rfl (fun K hK=>?_)
   rw [if_pos (by rfl)]
   go_wp2_with fail
   obtain ⟨s0,s1,s2,s3⟩:=hHeld
   refine (H2_.out _ _ _ (VZ.below s3).vn (VX.below s3).vn).mono ?_
   rintro e v1_ ⟨z1,rfl,r1,g⟩
   obtain ⟨d1,rfl,t1⟩:=vc_of r1
   replace q:=Bk.below q g
   replace t0:=t0.below g
   have s4 : Below W.heap.size W _:=bn s3 g
   have y1:=s4.size
   refine hK.out _ _ ⟨s0.below g,s1.below g,s2.below g,s4⟩ (fun hHeld=>?_)
   clear g r1 s0 s1 s2 s3 s4 hK K
   try simp only [Act.put,lsx]
   refine wrd 6 rfl (fun K hK=>?_)
   rw [if_pos (by rfl)]
   go_wp2_with fail
   obtain ⟨s0,s1,s2,s3⟩:=hHeld
   refine (H3_.out _ _ _ t0.vn t1.vn).mono ?_
   rintro e v2_ ⟨z2,rfl,r2,g⟩
   obtain ⟨d2,rfl,t2⟩:=vc_of r2
   replace q:=Bk.below q g
   have s4 : Below W.heap.size W _:=bn s3 g
   have y2:=s4.size
   refine hK.out _ _ ⟨s0.below g,s1.below g,s2.below g,s4⟩ (fun hHeld=>?_)
   clear g r2 s0 s1 s2 s3 s4 hK K
   try simp only [Act.put,lsx]
   refine wrd 8 rfl (fun K hK=>?_)
   obtain ⟨s0,s1,s2,s3⟩:=hHeld
   refine st_v (w0:=W) (B:=W.heap.size) (b:=W.heap.size) (c:=d2) (by rfl) (.tmp 13) (.tmp 39) (by rfl) (by rfl) (by rfl) q rfl z9_noint t2 s3 (by omega) ?_
   intro W4 K4 V4 G4 KP4 FB4
   refine hK.out _ _ ⟨FB4 _ _ (by omega) s0,FB4 _ _ (by omega) s1,FB4 _ _ (by omega) s2,G4⟩ (fun hHeld=>?_)
   clear hK K
   refine wpAnyH_done (by kernel_rfl) ?_ _
   go_wp2_with fail
   go_meet
   exact ⟨_,_,rfl,by omega,Lib.hid ⟨K4,V4⟩,G4⟩
 case rest =>
  obtain ⟨p,cn,rfl,hp,HK,hbz⟩:=hcut
  have KR5:=KR.below hbz
  have KX5:=KX.below hbz
  have VX5:=VX.below hbz
  obtain ⟨K5,V5⟩:=HK.out
  have BB5 : Below w.heap.size w wc:=bn BB hbz
  have zp:=K5.lt
  clear HK KR KX KY KZ VX VY VZ BB hbz
  obtain ⟨w5,hWW⟩ : ∃ x,x=wc:=⟨_,rfl⟩
  subst hWW
  have hn9:=V5.len
  have HRG:=Lib.hid K5.rng
  have HSZ : Hid ((Tryz.prog.info? 86).map (·.size)=some cn.length):=Lib.hid (by rw [hn9]; kernel_rfl)
  go_wp2_with (refine wpList_load_mid rfl 86 (.tmp 13) rfl p 0 rfl cn _ HRG.out Tryz.underlying86 rfl HSZ.out ?_)
  refine (H4_.out _ _ (V5.vn.below bel)).mono ?_
  rintro e w6 ⟨rfl,g6⟩
  have KR6:=KR5.below g6
  have KX6:=KX5.below g6
  have VX6:=VX5.below g6
  have K6:=K5.below g6
  have V6:=V5.below g6
  have BB6:=bn (w:=w) bel g6
  have zr6:=KR6.lt
  have zx6:=KX6.lt
  have zp6:=K6.lt
  clear g6 K5 V5 KR5 KX5 VX5 BB5 HRG HSZ
  obtain ⟨o0,o1,o2,o3,f0,f1,f2,f3⟩:=KR6.c4
  go_wp2
  refine bodyPost_ret (v:=.tuple #[.agg #[.string ⟨#[]⟩,.string ⟨#[]⟩,.string ⟨#[]⟩,.string ⟨#[]⟩],.int .i64 16]) (by simp [results,Tryz.results81,go_sem, *]) rfl ?_
  exact ⟨rfl,bel⟩
set_option maxRecDepth 100000 in
set_option maxHeartbeats 4000000 in
theorem wthrough_yes (a1 a2 a3 b1 b2 b3 c1 c2 c3 m1 m2 m3 m4 : ByteArray) (a b c d f n : V3) (k : Rat) (w : World)
  (hb : ∀ w,Calls Tryz.prog 90 #[.agg #[.string a1,.string a2,.string a3],.agg #[.string b1,.string b2,.string b3]] w fun e w'=>∃ z1 z2,e=.returned (.tuple #[z1,z2,.int .i64 0])∧Vn w' z1 a∧Vn w' z2 b∧Below w.heap.size w w')
  (hf : ∀ w,Calls Tryz.prog 61 #[.agg #[.string c1,.string c2,.string c3]] w fun e w'=>VB true c w w' e)
  (h1 : ∀ u v w,Vn w u b→Vn w v a→Calls Tryz.prog 62 #[u,v] w (Ret fun v' w'=>Vn w' v' d∧Below w.heap.size w w'))
  (h2 : ∀ u v w,Vn w u c→Vn w v a→Calls Tryz.prog 62 #[u,v] w (Ret fun v' w'=>Vn w' v' f∧Below w.heap.size w w'))
  (h3 : ∀ u v w,Vn w u d→Vn w v f→Calls Tryz.prog 116 #[u,v] w (Ret fun v' w'=>Vn w' v' n∧Below w.heap.size w w'))
  (h4 : ∀ u w,Vn w u n→Calls Tryz.prog 117 #[u] w fun e w'=>e=.returned (.bool false)∧Below w.heap.size w w')
  (h5 : ∀ u w,Vn w u n→Calls Tryz.prog 91 #[u] w fun e w'=>e=.returned (.agg #[.string m1,.string m2,.string m3])∧Below w.heap.size w w')
  (h6 : ∀ u v w,Vn w u n→Vn w v a→Calls Tryz.prog 118 #[u,v] w (Ret fun v' w'=>Qn w' v' k∧Below w.heap.size w w'))
  (h7 : ∀ u w,Qn w u k→Calls Tryz.prog 64 #[u] w fun e w'=>e=.returned (.string m4)∧Below w.heap.size w w') :
  Calls Tryz.prog 81 #[.agg #[.string a1,.string a2,.string a3],.agg #[.string b1,.string b2,.string b3],.agg #[.string c1,.string c2,.string c3]] w fun e w'=>e=.returned (.tuple #[.agg #[.string m1,.string m2,.string m3,.string m4],.int .i64 0])∧Below w.heap.size w w':=by
 have HB_:=Lib.hid hb
 clear hb
 have HF_:=Lib.hid hf
 clear hf
 have H1_:=Lib.hid h1
 clear h1
 have H2_:=Lib.hid h2
 clear h2
 have H3_:=Lib.hid h3
 clear h3
 have H4_:=Lib.hid h4
 clear h4
 have H5_:=Lib.hid h5
 clear h5
 have H6_:=Lib.hid h6
 clear h6
 have H7_:=Lib.hid h7
 clear h7
 go_enter Tryz.func81,Tryz.ntmps81
 go_wp2_with fail
 refine (HB_.out _).mono ?_
 rintro e w1 ⟨z1,z2,rfl,hx,hy,g1⟩
 obtain ⟨xA1,xa1,xB1,xb1,xA2,xa2,xB2,xb2,xA3,xa3,xB3,xb3,hE,xh1,xh2,xh3⟩:=hx.open
 subst hE
 obtain ⟨yA1,ya1,yB1,yb1,yA2,ya2,yB2,yb2,yA3,ya3,yB3,yb3,hE,yh1,yh2,yh3⟩:=hy.open
 subst hE
 have KC1 : Bk w1 (w.heap.size+1+1) [.string c1,.string c2,.string c3]:=Bk.below bkk g1
 have KR1 : Bk w1 (w.heap.size+1+1+1) [.string ⟨#[]⟩,.string ⟨#[]⟩,.string ⟨#[]⟩,.string ⟨#[]⟩]:=Bk.below bkk g1
 have BB1:=bn (w:=w) bel g1
 have zr1:=KR1.lt
 have zc1:=KC1.lt
 have zc2 : w.heap.size+1<w1.heap.size:=by omega
 have zc3 : w.heap.size<w1.heap.size:=by omega
 clear g1 hx hy
 obtain ⟨x10,x11,x12, -⟩:=KC1.c3
 go_wp2_with fail
 refine (HF_.out _).mono ?_
 rintro e w2 ⟨z3,rfl,hz,g2⟩
 obtain ⟨zA1,za1,zB1,zb1,zA2,za2,zB2,zb2,zA3,za3,zB3,zb3,hE,zh1,zh2,zh3⟩:=hz.open
 subst hE
 have KR2 : Bk w2 (w.heap.size+1+1+1) [.string ⟨#[]⟩,.string ⟨#[]⟩,.string ⟨#[]⟩,.string ⟨#[]⟩]:=Bk.below bkk g2
 have KX2 : Bk w2 (w1.heap.size) [.bool (decide (a.x.num<0)),.slice xA1 (wds a.x.num.natAbs).length xa1,.slice xB1 (wds a.x.den).length xb1,.bool (decide (a.y.num<0)),.slice xA2 (wds a.y.num.natAbs).length xa2,.slice xB2 (wds a.y.den).length xb2,.bool (decide (a.z.num<0)),.slice xA3 (wds a.z.num.natAbs).length xa3,.slice xB3 (wds a.z.den).length xb3]:=Bk.below bkk g2
 have KY2 : Bk w2 (w1.heap.size+1) [.bool (decide (b.x.num<0)),.slice yA1 (wds b.x.num.natAbs).length ya1,.slice yB1 (wds b.x.den).length yb1,.bool (decide (b.y.num<0)),.slice yA2 (wds b.y.num.natAbs).length ya2,.slice yB2 (wds b.y.den).length yb2,.bool (decide (b.z.num<0)),.slice yA3 (wds b.z.num.natAbs).length ya3,.slice yB3 (wds b.z.den).length yb3]:=Bk.below bkk g2
 have VX2 : VC w2 [.bool (decide (a.x.num<0)),.slice xA1 (wds a.x.num.natAbs).length xa1,.slice xB1 (wds a.x.den).length xb1,.bool (decide (a.y.num<0)),.slice xA2 (wds a.y.num.natAbs).length xa2,.slice xB2 (wds a.y.den).length xb2,.bool (decide (a.z.num<0)),.slice xA3 (wds a.z.num.natAbs).length xa3,.slice xB3 (wds a.z.den).length xb3] a:=(vc_mk (xh1.below bup) (xh2.below bup) (xh3.below bup)).below g2
 have VY2 : VC w2 [.bool (decide (b.x.num<0)),.slice yA1 (wds b.x.num.natAbs).length ya1,.slice yB1 (wds b.x.den).length yb1,.bool (decide (b.y.num<0)),.slice yA2 (wds b.y.num.natAbs).length ya2,.slice yB2 (wds b.y.den).length yb2,.bool (decide (b.z.num<0)),.slice yA3 (wds b.z.num.natAbs).length ya3,.slice yB3 (wds b.z.den).length yb3] b:=(vc_mk (yh1.below bup) (yh2.below bup) (yh3.below bup)).below g2
 have VZ2:=vc_mk zh1 zh2 zh3
 have BB2:=bn (w:=w) bel g2
 clear g2 hz xh1 xh2 xh3 yh1 yh2 yh3 zh1 zh2 zh3 KC1 KR1 x10 x11 x12
 go_upto_region 5 with fail
 obtain ⟨W,hW⟩ : ∃ W,W=w2.alloc (.cells #[.bool (decide (c.x.num<0)),.slice zA1 (wds c.x.num.natAbs).length za1,.slice zB1 (wds c.x.den).length zb1,.bool (decide (c.y.num<0)),.slice zA2 (wds c.y.num.natAbs).length za2,.slice zB2 (wds c.y.den).length zb2,.bool (decide (c.z.num<0)),.slice zA3 (wds c.z.num.natAbs).length za3,.slice zB3 (wds c.z.den).length zb3] 86):=⟨_,rfl⟩
 rw [← hW]
 have KX : Bk W (w1.heap.size) [.bool (decide (a.x.num<0)),.slice xA1 (wds a.x.num.natAbs).length xa1,.slice xB1 (wds a.x.den).length xb1,.bool (decide (a.y.num<0)),.slice xA2 (wds a.y.num.natAbs).length xa2,.slice xB2 (wds a.y.den).length xb2,.bool (decide (a.z.num<0)),.slice xA3 (wds a.z.num.natAbs).length xa3,.slice xB3 (wds a.z.den).length xb3]:=by rw [hW]; exact KX2.alloc _
 have KY : Bk W (w1.heap.size+1) [.bool (decide (b.x.num<0)),.slice yA1 (wds b.x.num.natAbs).length ya1,.slice yB1 (wds b.x.den).length yb1,.bool (decide (b.y.num<0)),.slice yA2 (wds b.y.num.natAbs).length ya2,.slice yB2 (wds b.y.den).length yb2,.bool (decide (b.z.num<0)),.slice yA3 (wds b.z.num.natAbs).length ya3,.slice yB3 (wds b.z.den).length yb3]:=by rw [hW]; exact KY2.alloc _
 have KZ : Bk W (w2.heap.size) [.bool (decide (c.x.num<0)),.slice zA1 (wds c.x.num.natAbs).length za1,.slice zB1 (wds c.x.den).length zb1,.bool (decide (c.y.num<0)),.slice zA2 (wds c.y.num.natAbs).length za2,.slice zB2 (wds c.y.den).length zb2,.bool (decide (c.z.num<0)),.slice zA3 (wds c.z.num.natAbs).length za3,.slice zB3 (wds c.z.den).length zb3]:=by rw [hW]; exact bk_at rfl
 have KR : Bk W (w.heap.size+1+1+1) [.string ⟨#[]⟩,.string ⟨#[]⟩,.string ⟨#[]⟩,.string ⟨#[]⟩]:=by rw [hW]; exact KR2.alloc _
 have VX:=VX2.below (w1:=W) (by rw [hW]; exact ba (br _))
 have VY:=VY2.below (w1:=W) (by rw [hW]; exact ba (br _))
 have VZ:=VZ2.below (w1:=W) (by rw [hW]; exact ba (br _))
 have BB : Below w.heap.size w W:=by rw [hW]; exact ba BB2
 have zx:=KX.lt
 have zy:=KY.lt
 have zz:=KZ.lt
 have zr:=KR.lt
 have zw:=BB1.size
 clear hW KX2 KY2 KR2 VX2 VY2 VZ2 BB2 BB1
 obtain ⟨cx,hcx⟩ : ∃ x : List Value,x=[.bool (decide (a.x.num<0)),.slice xA1 (wds a.x.num.natAbs).length xa1,.slice xB1 (wds a.x.den).length xb1,.bool (decide (a.y.num<0)),.slice xA2 (wds a.y.num.natAbs).length xa2,.slice xB2 (wds a.y.den).length xb2,.bool (decide (a.z.num<0)),.slice xA3 (wds a.z.num.natAbs).length xa3,.slice xB3 (wds a.z.den).length xb3]:=⟨_,rfl⟩
 rw [← hcx] at KX VX
 clear hcx
 obtain ⟨cy,hcy⟩ : ∃ x : List Value,x=[.bool (decide (b.x.num<0)),.slice yA1 (wds b.x.num.natAbs).length ya1,.slice yB1 (wds b.x.den).length yb1,.bool (decide (b.y.num<0)),.slice yA2 (wds b.y.num.natAbs).length ya2,.slice yB2 (wds b.y.den).length yb2,.bool (decide (b.z.num<0)),.slice yA3 (wds b.z.num.natAbs).length ya3,.slice yB3 (wds b.z.den).length yb3]:=⟨_,rfl⟩
 rw [← hcy] at KY VY
 clear hcy
 obtain ⟨cz,hcz⟩ : ∃ x : List Value,x=[.bool (decide (c.x.num<0)),.slice zA1 (wds c.x.num.natAbs).length za1,.slice zB1 (wds c.x.den).length zb1,.bool (decide (c.y.num<0)),.slice zA2 (wds c.y.num.natAbs).length za2,.slice zB2 (wds c.y.den).length zb2,.bool (decide (c.z.num<0)),.slice zA3 (wds c.z.num.natAbs).length za3,.slice zB3 (wds c.z.den).length zb3]:=⟨_,rfl⟩
 rw [← hcz] at KZ VZ
 clear hcz
 go_cut [13] (fun s13 wx=>∃ p cn,s13=.pointer (some ⟨p,0,none⟩)∧W.heap.size≤p∧Hid (Bk wx p cn∧VC wx cn n)∧Below W.heap.size W wx)
 case first =>
  refine wp_region_held_drew (S:=fun w'=>Bk w' w1.heap.size cx∧Bk w' (w1.heap.size+1) cy∧Bk w' w2.heap.size cz∧Below W.heap.size W w') (by kernel_rfl) ?_ (fun hHeld=>?_)
  ·exact ⟨KX.drew,KY.drew,KZ.drew,bd (br _)⟩
  refine wtl 0 (.agg cy.toArray) rfl (ld_v rfl (.tmp 9) rfl _ rfl cy VY.len (fun w' h=>h.2.1)) hHeld ?_
  try simp only [Act.put,lsx]
  refine wtl 1 (.agg cx.toArray) rfl (ld_v rfl (.tmp 8) rfl _ rfl cx VX.len (fun w' h=>h.1)) hHeld ?_
  try simp only [Act.put,lsx]
  refine wtl 3 (.agg cz.toArray) rfl (ld_v rfl (.tmp 11) rfl _ rfl cz VZ.len (fun w' h=>h.2.2.1)) hHeld ?_
  try simp only [Act.put,lsx]
  refine wtl 4 (.agg cx.toArray) rfl (ld_v rfl (.tmp 8) rfl _ rfl cx VX.len (fun w' h=>h.1)) hHeld ?_
  try simp only [Act.put,lsx]
  refine wpAnyH_ready (rs:=[2,7]) (by kernel_rfl) (by simp) ?_
  refine AllReadyH.cons rfl (fun K hK=>?_) (AllReadyH.cons rfl (fun K hK=>?_) AllReadyH.nil)
  ·skip
   rw [if_pos (by rfl)]
   go_wp2_with fail
   obtain ⟨s0,s1,s2,s3⟩:=hHeld
   refine (H1_.out _ _ _ (VY.below s3).vn (VX.below s3).vn).mono ?_
   rintro e v0_ ⟨z0,rfl,r0,g⟩
   obtain ⟨d0,rfl,t0⟩:=vc_of r0
   have s4 : Below W.heap.size W _:=bn s3 g
   have y0:=s4.size
   refine hK.out _ _ ⟨s0.below g,s1.below g,s2.below g,s4⟩ (fun hHeld=>?_)
   clear g r0 s0 s1 s2 s3 s4 hK K
   try simp only [Act.put,lsx]
   refine wpAnyH_ready (rs:=[5,7]) (by kernel_rfl) (by simp) ?_
   refine AllReadyH.cons rfl (fun K hK=>?_) (AllReadyH.cons rfl (fun K hK=>?_) AllReadyH.nil)
   ·skip
    rw [if_pos (by rfl)]
    go_wp2_with fail
    obtain ⟨s0,s1,s2,s3⟩:=hHeld
    refine (H2_.out _ _ _ (VZ.below s3).vn (VX.below s3).vn).mono ?_
    rintro e v1_ ⟨z1,rfl,r1,g⟩
    obtain ⟨d1,rfl,t1⟩:=vc_of r1
    replace t0:=t0.below g
    have s4 : Below W.heap.size W _:=bn s3 g
    have y1:=s4.size
    refine hK.out _ _ ⟨s0.below g,s1.below g,s2.below g,s4⟩ (fun hHeld=>?_)
    clear g r1 s0 s1 s2 s3 s4 hK K
    try simp only [Act.put,lsx]
    refine wpAnyH_ready (rs:=[6,7]) (by kernel_rfl) (by simp) ?_
    refine AllReadyH.cons rfl (fun K hK=>?_) (AllReadyH.cons rfl (fun K hK=>?_) AllReadyH.nil)
    ·skip
     rw [if_pos (by rfl)]
     go_wp2_with fail
     obtain ⟨s0,s1,s2,s3⟩:=hHeld
     refine (H3_.out _ _ _ t0.vn t1.vn).mono ?_
     rintro e v2_ ⟨z2,rfl,r2,g⟩
     obtain ⟨d2,rfl,t2⟩:=vc_of r2
     have s4 : Below W.heap.size W _:=bn s3 g
     have y2:=s4.size
     refine hK.out _ _ ⟨s0.below g,s1.below g,s2.below g,s4⟩ (fun hHeld=>?_)
     clear g r2 s0 s1 s2 s3 s4 hK K
     try simp only [Act.put,lsx]
     refine wrd 7 rfl (fun K hK=>?_)
     rw [if_pos (by rfl)]
     go_simp
     obtain ⟨s0,s1,s2,s3⟩:=hHeld
     have q:=bk_new v2_ #[.bool false,.slice none 0 0,.slice none 0 0,.bool false,.slice none 0 0,.slice none 0 0,.bool false,.slice none 0 0,.slice none 0 0] 86
     replace t2:=t2.below (ba (o:=.cells #[.bool false,.slice none 0 0,.slice none 0 0,.bool false,.slice none 0 0,.slice none 0 0,.bool false,.slice none 0 0,.slice none 0 0] 86) (br v2_))
     refine hK.out _ _ ⟨s0.alloc _,s1.alloc _,s2.alloc _,ba s3⟩ (fun hHeld=>?_)
     clear s0 s1 s2 s3 hK K
     try simp only [Act.put,lsx]
     refine wrd 8 rfl (fun K hK=>?_)
     obtain ⟨s0,s1,s2,s3⟩:=hHeld
     refine st_v (w0:=W) (B:=W.heap.size) (b:=v2_.heap.size) (c:=d2) (by rfl) (.tmp 13) (.tmp 39) (by rfl) (by rfl) (by rfl) q rfl z9_noint t2 s3 (by omega) ?_
     intro W4 K4 V4 G4 KP4 FB4
     refine hK.out _ _ ⟨FB4 _ _ (by omega) s0,FB4 _ _ (by omega) s1,FB4 _ _ (by omega) s2,G4⟩ (fun hHeld=>?_)
     clear hK K
     refine wpAnyH_done (by kernel_rfl) ?_ _
     go_wp2_with fail
     go_meet
     exact ⟨_,_,rfl,by omega,Lib.hid ⟨K4,V4⟩,G4⟩
    ·skip
     rw [if_pos (by rfl)]
     go_simp
     obtain ⟨s0,s1,s2,s3⟩:=hHeld
     have q:=bk_new v1_ #[.bool false,.slice none 0 0,.slice none 0 0,.bool false,.slice none 0 0,.slice none 0 0,.bool false,.slice none 0 0,.slice none 0 0] 86
     replace t0:=t0.below (ba (o:=.cells #[.bool false,.slice none 0 0,.slice none 0 0,.bool false,.slice none 0 0,.slice none 0 0,.bool false,.slice none 0 0,.slice none 0 0] 86) (br v1_))
     replace t1:=t1.below (ba (o:=.cells #[.bool false,.slice none 0 0,.slice none 0 0,.bool false,.slice none 0 0,.slice none 0 0,.bool false,.slice none 0 0,.slice none 0 0] 86) (br v1_))
     refine hK.out _ _ ⟨s0.alloc _,s1.alloc _,s2.alloc _,ba s3⟩ (fun hHeld=>?_)
     clear s0 s1 s2 s3 hK K
     try simp only [Act.put,lsx]
     refine wrd 6 rfl (fun K hK=>?_)
     rw [if_pos (by rfl)]
     go_wp2_with fail
     obtain ⟨s0,s1,s2,s3⟩:=hHeld
     refine (H3_.out _ _ _ t0.vn t1.vn).mono ?_
     rintro e v2_ ⟨z2,rfl,r2,g⟩
     obtain ⟨d2,rfl,t2⟩:=vc_of r2
     replace q:=Bk.below q g
     have s4 : Below W.heap.size W _:=bn s3 g
     have y2:=s4.size
     refine hK.out _ _ ⟨s0.below g,s1.below g,s2.below g,s4⟩ (fun hHeld=>?_)
     clear g r2 s0 s1 s2 s3 s4 hK K
     try simp only [Act.put,lsx]
     refine wrd 8 rfl (fun K hK=>?_)
     obtain ⟨s0,s1,s2,s3⟩:=hHeld
     refine st_v (w0:=W) (B:=W.heap.size) (b:=v1_.heap.size) (c:=d2) (by rfl) (.tmp 13) (.tmp 39) (by rfl) (by rfl) (by rfl) q rfl z9_noint t2 s3 (by omega) ?_
     intro W4 K4 V4 G4 KP4 FB4
     refine hK.out _ _ ⟨FB4 _ _ (by omega) s0,FB4 _ _ (by omega) s1,FB4 _ _ (by omega) s2,G4⟩ (fun hHeld=>?_)
     clear hK K
     refine wpAnyH_done (by kernel_rfl) ?_ _
     go_wp2_with fail
     go_meet
     exact ⟨_,_,rfl,by omega,Lib.hid ⟨K4,V4⟩,G4⟩
   ·skip
    rw [if_pos (by rfl)]
    go_simp
    obtain ⟨s0,s1,s2,s3⟩:=hHeld
    have q:=bk_new v0_ #[.bool false,.slice none 0 0,.slice none 0 0,.bool false,.slice none 0 0,.slice none 0 0,.bool false,.slice none 0 0,.slice none 0 0] 86
    replace t0:=t0.below (ba (o:=.cells #[.bool false,.slice none 0 0,.slice none 0 0,.bool false,.slice none 0 0,.slice none 0 0,.bool false,.slice none 0 0,.slice none 0 0] 86) (br v0_))
    refine hK.out _ _ ⟨s0.alloc _,s1.alloc _,s2.alloc _,ba s3⟩ (fun hHeld=>?_)
    clear s0 s1 s2 s3 hK K
    try simp only [Act.put,lsx]
    refine wrd 5 rfl (fun K hK=>?_)
    rw [if_pos (by rfl)]
    go_wp2_with fail
    obtain ⟨s0,s1,s2,s3⟩:=hHeld
    refine (H2_.out _ _ _ (VZ.below s3).vn (VX.below s3).vn).mono ?_
    rintro e v1_ ⟨z1,rfl,r1,g⟩
    obtain ⟨d1,rfl,t1⟩:=vc_of r1
    replace q:=Bk.below q g
    replace t0:=t0.below g
    have s4 : Below W.heap.size W _:=bn s3 g
    have y1:=s4.size
    refine hK.out _ _ ⟨s0.below g,s1.below g,s2.below g,s4⟩ (fun hHeld=>?_)
    clear g r1 s0 s1 s2 s3 s4 hK K
    try simp only [Act.put,lsx]
    refine wrd 6 rfl (fun K hK=>?_)
    rw [if_pos (by rfl)]
    go_wp2_with fail
    obtain ⟨s0,s1,s2,s3⟩:=hHeld
    refine (H3_.out _ _ _ t0.vn t1.vn).mono ?_
    rintro e v2_ ⟨z2,rfl,r2,g⟩
    obtain ⟨d2,rfl,t2⟩:=vc_of r2
    replace q:=Bk.below q g
    have s4 : Below W.heap.size W _:=bn s3 g
    have y2:=s4.size
    refine hK.out _ _ ⟨s0.below g,s1.below g,s2.below g,s4⟩ (fun hHeld=>?_)
    clear g r2 s0 s1 s2 s3 s4 hK K
    try simp only [Act.put,lsx]
    refine wrd 8 rfl (fun K hK=>?_)
    obtain ⟨s0,s1,s2,s3⟩:=hHeld
    refine st_v (w0:=W) (B:=W.heap.size) (b:=v0_.heap.size) (c:=d2) (by rfl) (.tmp 13) (.tmp 39) (by rfl) (by rfl) (by rfl) q rfl z9_noint t2 s3 (by omega) ?_
    intro W4 K4 V4 G4 KP4 FB4
    refine hK.out _ _ ⟨FB4 _ _ (by omega) s0,FB4 _ _ (by omega) s1,FB4 _ _ (by omega) s2,G4⟩ (fun hHeld=>?_)
    clear hK K
    refine wpAnyH_done (by kernel_rfl) ?_ _
    go_wp2_with fail
    go_meet
    exact ⟨_,_,rfl,by omega,Lib.hid ⟨K4,V4⟩,G4⟩
  ·skip
   rw [if_pos (by rfl)]
   go_simp
   obtain ⟨s0,s1,s2,s3⟩:=hHeld
   have q:=bk_new W.drew #[.bool false,.slice none 0 0,.slice none 0 0,.bool false,.slice none 0 0,.slice none 0 0,.bool false,.slice none 0 0,.slice none 0 0] 86
   refine hK.out _ _ ⟨s0.alloc _,s1.alloc _,s2.alloc _,ba s3⟩ (fun hHeld=>?_)
   clear s0 s1 s2 s3 hK K
   try simp only [Act.put,lsx]
   refine wrd 2 rfl (fun K hK=>?_)
   rw [if_pos (by rfl)]
   go_wp2_with fail
   obtain ⟨s0,s1,s2,s3⟩:=hHeld
   refine (H1_.out _ _ _ (VY.below s3).vn (VX.below s3).vn).mono ?_
   rintro e v0_ ⟨z0,rfl,r0,g⟩
   obtain ⟨d0,rfl,t0⟩:=vc_of r0
   replace q:=Bk.below q g
   have s4 : Below W.heap.size W _:=bn s3 g
   have y0:=s4.size
   refine hK.out _ _ ⟨s0.below g,s1.below g,s2.below g,s4⟩ (fun hHeld=>?_)
   clear g r0 s0 s1 s2 s3 s4 hK K
   try simp only [Act.put,lsx]
   refine wrd 5 rfl (fun K hK=>?_)
   rw [if_pos (by rfl)]
   go_wp2_with fail
   obtain ⟨s0,s1,s2,s3⟩:=hHeld
   refine (H2_.out _ _ _ (VZ.below s3).vn (VX.below s3).vn).mono ?_
   rintro e v1_ ⟨z1,rfl,r1,g⟩
   obtain ⟨d1,rfl,t1⟩:=vc_of r1
   replace q:=Bk.below q g
   replace t0:=t0.below g
   have s4 : Below W.heap.size W _:=bn s3 g
   have y1:=s4.size
   refine hK.out _ _ ⟨s0.below g,s1.below g,s2.below g,s4⟩ (fun hHeld=>?_)
   clear g r1 s0 s1 s2 s3 s4 hK K
   try simp only [Act.put,lsx]
   refine wrd 6 rfl (fun K hK=>?_)
   rw [if_pos (by rfl)]
   go_wp2_with fail
   obtain ⟨s0,s1,s2,s3⟩:=hHeld
   refine (H3_.out _ _ _ t0.vn t1.vn).mono ?_
   rintro e v2_ ⟨z2,rfl,r2,g⟩
   obtain ⟨d2,rfl,t2⟩:=vc_of r2
   replace q:=Bk.below q g
   have s4 : Below W.heap.size W _:=bn s3 g
   have y2:=s4.size
   refine hK.out _ _ ⟨s0.below g,s1.below g,s2.below g,s4⟩ (fun hHeld=>?_)
   clear g r2 s0 s1 s2 s3 s4 hK K
   try simp only [Act.put,lsx]
   refine wrd 8 rfl (fun K hK=>?_)
   obtain ⟨s0,s1,s2,s3⟩:=hHeld
   refine st_v (w0:=W) (B:=W.heap.size) (b:=W.heap.size) (c:=d2) (by rfl) (.tmp 13) (.tmp 39) (by rfl) (by rfl) (by rfl) q rfl z9_noint t2 s3 (by omega) ?_
   intro W4 K4 V4 G4 KP4 FB4
   refine hK.out _ _ ⟨FB4 _ _ (by omega) s0,FB4 _ _ (by omega) s1,FB4 _ _ (by omega) s2,G4⟩ (fun hHeld=>?_)
   clear hK K
   refine wpAnyH_done (by kernel_rfl) ?_ _
   go_wp2_with fail
   go_meet
   exact ⟨_,_,rfl,by omega,Lib.hid ⟨K4,V4⟩,G4⟩
 case rest =>
  obtain ⟨p,cn,rfl,hp,HK,hbz⟩:=hcut
  have KR5:=KR.below hbz
  have KX5:=KX.below hbz
  have VX5:=VX.below hbz
  obtain ⟨K5,V5⟩:=HK.out
  have BB5 : Below w.heap.size w wc:=bn BB hbz
  have zp:=K5.lt
  clear HK KR KX KY KZ VX VY VZ BB hbz
  obtain ⟨w5,hWW⟩ : ∃ x,x=wc:=⟨_,rfl⟩
  subst hWW
  have hn9:=V5.len
  have HRG:=Lib.hid K5.rng
  have HSZ : Hid ((Tryz.prog.info? 86).map (·.size)=some cn.length):=Lib.hid (by rw [hn9]; kernel_rfl)
  go_wp2_with (refine wpList_load_mid rfl 86 (.tmp 13) rfl p 0 rfl cn _ HRG.out Tryz.underlying86 rfl HSZ.out ?_)
  refine (H4_.out _ _ (V5.vn.below bel)).mono ?_
  rintro e w6 ⟨rfl,g6⟩
  have KR6:=KR5.below g6
  have KX6:=KX5.below g6
  have VX6:=VX5.below g6
  have K6:=K5.below g6
  have V6:=V5.below g6
  have BB6:=bn (w:=w) bel g6
  have zr6:=KR6.lt
  have zx6:=KX6.lt
  have zp6:=K6.lt
  clear g6 K5 V5 KR5 KX5 VX5 BB5 HRG HSZ
  go_wp2_with fail
  refine wp_region_held_drew (S:=fun w'=>Bk w' w1.heap.size cx∧Bk w' p cn∧Below w.heap.size w w') (by kernel_rfl) ?_ (fun hHeld=>?_)
  ·exact ⟨KX6.drew,K6.drew,bd BB6⟩
  refine wtl 0 (.agg cn.toArray) rfl (ld_v rfl (.tmp 13) rfl _ rfl cn V6.len (fun w' h=>h.2.1)) hHeld ?_
  try simp only [Act.put,lsx]
  refine wtl 2 (.agg cn.toArray) rfl (ld_v rfl (.tmp 13) rfl _ rfl cn V6.len (fun w' h=>h.2.1)) hHeld ?_
  try simp only [Act.put,lsx]
  refine wtl 3 (.agg cx.toArray) rfl (ld_v rfl (.tmp 8) rfl _ rfl cx VX6.len (fun w' h=>h.1)) hHeld ?_
  try simp only [Act.put,lsx]
  replace V6:=V6.below (bd (br _))
  replace VX6:=VX6.below (bd (br _))
  replace KR6:=KR6.drew
  refine wrd 1 rfl (fun K hK=>?_)
  rw [if_pos (by rfl)]
  go_wp2_with fail
  obtain ⟨s0,s1,s3⟩:=hHeld
  refine (H5_.out _ _ V6.vn).mono ?_
  rintro e v0_ ⟨rfl,g⟩
  replace V6:=V6.below g
  replace VX6:=VX6.below g
  replace KR6:=KR6.below g
  refine hK.out _ _ ⟨s0.below g,s1.below g,bn s3 g⟩ (fun hHeld=>?_)
  clear g s0 s1 s3 hK K
  try simp only [Act.put,lsx]
  refine wrd 4 rfl (fun K hK=>?_)
  rw [if_pos (by rfl)]
  go_wp2_with fail
  obtain ⟨s0,s1,s3⟩:=hHeld
  refine (H6_.out _ _ _ V6.vn VX6.vn).mono ?_
  rintro e v1_ ⟨z1,rfl,r1,g⟩
  obtain ⟨A1,a1,B1,b1,hE,_⟩:=r1.open
  subst hE
  replace V6:=V6.below g
  replace VX6:=VX6.below g
  replace KR6:=KR6.below g
  refine hK.out _ _ ⟨s0.below g,s1.below g,bn s3 g⟩ (fun hHeld=>?_)
  clear g s0 s1 s3 hK K
  try simp only [Act.put,lsx]
  refine wrd 5 rfl (fun K hK=>?_)
  rw [if_pos (by rfl)]
  go_wp2_with fail
  obtain ⟨s0,s1,s3⟩:=hHeld
  refine (H7_.out _ _ r1).mono ?_
  rintro e v2_ ⟨rfl,g⟩
  replace V6:=V6.below g
  replace VX6:=VX6.below g
  replace KR6:=KR6.below g
  refine hK.out _ _ ⟨s0.below g,s1.below g,bn s3 g⟩ (fun hHeld=>?_)
  clear g s0 s1 s3 hK K
  try simp only [Act.put,lsx]
  refine wtk 6 (.agg #[.string m1,.string m2,.string m3,.string m4]) rfl rfl (fun w' hS=>?_) hHeld ?_
  ·go_simp
  try simp only [Act.put,lsx]
  refine wrd 7 rfl (fun K hK=>?_)
  obtain ⟨s0,s1,s3⟩:=hHeld
  refine step_store_row2 (w0:=w) (B:=w.heap.size) (b:=w.heap.size+1+1+1) (cs:=[.string m1,.string m2,.string m3,.string m4]) (by rfl) 104 (.tmp 6) (.tmp 49) (by rfl) (by rfl) (by rfl) KR6 (by rfl) (by simp) (by rfl) (by kernel_rfl) s3 (by omega) ?_
  intro W7 K7 G7 KP7 FR7 FB7
  refine hK.out _ _ ⟨FB7 _ _ (by omega) s0,FB7 _ _ (by omega) s1,G7⟩ (fun hHeld=>?_)
  clear hK K
  try simp only [Act.put,lsx]
  refine wtk 8 (.int .i64 0) rfl rfl (fun w' hS=>?_) hHeld ?_
  ·go_simp
  try simp only [Act.put,lsx]
  refine wpAnyH_done (by kernel_rfl) ?_ _
  obtain ⟨o0,o1,o2,o3,f0,f1,f2,f3⟩:=K7.c4
  go_wp2
  refine bodyPost_ret (v:=.tuple #[.agg #[.string m1,.string m2,.string m3,.string m4],.int .i64 0]) (by simp [results,Tryz.results81,go_sem, *]) rfl ?_
  exact ⟨rfl,G7⟩
theorem wThrough_walk (a b c : V3) (ha : a.le 30000) (hb : b.le 30000) (hc : c.le 30000) (w : World) :
  Calls Tryz.prog 81 #[VV a,VV b,VV c] w fun e w'=>e=.returned (.tuple #[thrV a b c,.int .i64 (thrE a b c)])∧Below w.heap.size w w':=by
 have ta:=txv_le ha
 have tb:=txv_le hb
 have tc:=txv_le hc
 have hn:=thrN_le (n:=300000) ha hb hc (by omega)
 have hs1:=V3.le_sub hb ha (n:=60001) (by omega)
 have hs2:=V3.le_sub hc ha (n:=60001) (by omega)
 have hd:=rz_dot hn ha (n:=1000000) (by omega)
 have H1:=fun w=>wboth_walk (txv a) (txv b) ⟨Nat.le_trans ta.1 (by omega),Nat.le_trans ta.2.1 (by omega),Nat.le_trans ta.2.2 (by omega)⟩ ⟨Nat.le_trans tb.1 (by omega),Nat.le_trans tb.2.1 (by omega),Nat.le_trans tb.2.2 (by omega)⟩ w
 rw [both_ok (isVec_txv a) (isVec_txv b),vOf_txv,vOf_txv,txv_val,txv_val] at H1
 have H2:=fun w=>wFrom_walk (txv c) ⟨Nat.le_trans tc.1 (by omega),Nat.le_trans tc.2.1 (by omega),Nat.le_trans tc.2.2 (by omega)⟩ w
 rw [isVec_txv,vOf_txv,txv_val] at H2
 have h1:=fun u v W (h : Vn W u b) (g : Vn W v a)=>wMinus_walk u v b a W h g (hb.mono (by omega)) (ha.mono (by omega))
 have h2:=fun u v W (h : Vn W u c) (g : Vn W v a)=>wMinus_walk u v c a W h g (hc.mono (by omega)) (ha.mono (by omega))
 have h3 : ∀ u v W,Vn W u (b.sub a)→Vn W v (c.sub a)→Calls Tryz.prog 116 #[u,v] W (Ret fun v' w'=>Vn w' v' (thrN a b c)∧Below W.heap.size W w'):=fun u v W h g=>wOuter_walk u v (b.sub a) (c.sub a) W h g (hs1.mono (by omega)) (hs2.mono (by omega))
 have h4:=fun u W (h : Vn W u (thrN a b c))=>wZero_walk u (thrN a b c) W h
 have h5:=fun u W (h : Vn W u (thrN a b c))=>wTo_walk u (thrN a b c) W h (hn.mono (by omega))
 rw [VV_eq (thrN a b c)] at h5
 have h6:=fun u v W (h : Vn W u (thrN a b c)) (g : Vn W v a)=>wInner_walk u v (thrN a b c) a W h g (hn.mono (by omega)) (ha.mono (by omega))
 have h7:=fun u W (h : Qn W u ((thrN a b c).dot a))=>qTo_walk u ((thrN a b c).dot a) W h hd
 unfold thrV thrE
 by_cases h0 : thrN a b c=V3.zero
 ·rw [if_pos h0,if_pos h0]
  rw [decide_eq_true h0] at h4
  exact wthrough_no _ _ _ _ _ _ _ _ _ _ _ _ _ a b c _ _ _ _ w H1 H2 h1 h2 h3 h4 h5 h6 h7
 ·rw [if_neg h0,if_neg h0]
  rw [decide_eq_false h0] at h4
  exact wthrough_yes _ _ _ _ _ _ _ _ _ _ _ _ _ a b c _ _ _ _ w H1 H2 h1 h2 h3 h4 h5 h6 h7
end Go.Proofs.YtbnbaokamccmjaaGreatDoor

/- garboardref11: ReadPlane, Side. -/
namespace Go.Proofs.YtbnbaokamccmjaaGreatDoor
open Go Go.RowKit
theorem Pn.keep {W W' : World} {u : Value} {p : Pl} (h : Pn W u p) (g : Keep W W') : Pn W' u p:=by
 obtain ⟨n1,d1,n2,d2,n3,d3,b4,n4,d4,e,h1,h2,h3,h4⟩:=h
 exact ⟨n1,d1,n2,d2,n3,d3,b4,n4,d4,e,h1.keep g,h2.keep g,h3.keep g,h4.keep g⟩
section
variable {ops : Array Oper} {o : Oper} {a : Act} {K : Act→World→Prop} {Q : Exit→Act→World→Prop} {E : Prop} {S : World→Prop}
theorem ld_q (hw : Region.wanted o (yielded ops a.tmps)=true) (x : Operand) (ho : o.op=.load 84 x) (b : Nat) (hx : a.eval x=.pointer (some ⟨b,0,none⟩)) (c : List Value) (h9 : c.length=3) (hS : ∀ w,S w→Bk w b c) : YieldsIf Tryz.prog ops S o (.agg c.toArray) a :=
 yieldsIf_load_mid hw _ x ho b 0 hx c _ (fun w h=>(hS w h).rng) Tryz.underlying84 rfl (by rw [h9]; kernel_rfl)
end
set_option maxRecDepth 100000 in
set_option maxHeartbeats 4000000 in
theorem wReadPlane_walk (p : Pl) (h0 : p.n≠V3.zero) (hp : p.le 1000000) (w : World) :
  Calls Tryz.prog 119 #[PV p] w fun e w'=>∃ u,e=.returned (.tuple #[u,.bool true])∧Pn w' u p∧Below w.heap.size w w':=by
 have tn:=txv_le hp.1
 have HF:=Lib.hid (fun w=>wFrom_walk (txv p.n) ⟨Nat.le_trans tn.1 (by omega),Nat.le_trans tn.2.1 (by omega),Nat.le_trans tn.2.2 (by omega)⟩ w)
 rw [isVec_txv,vOf_txv,txv_val,VV_eq] at HF
 have HQ:=Lib.hid (fun w=>qFrom_good p.c (Nat.le_trans hp.2 (by omega)) w)
 have HZ:=Lib.hid (fun u W (h : Vn W u p.n)=>wZero_walk u p.n W h)
 rw [decide_eq_false h0] at HZ
 rw [PV_eq]
 clear tn hp h0
 generalize rtx p.n.x=n1 at *
 generalize rtx p.n.y=n2 at *
 generalize rtx p.n.z=n3 at *
 generalize rtx p.c=n4 at *
 go_enter Tryz.func119,Tryz.ntmps119
 go_wp2_with fail
 refine (HF.out _).mono ?_
 rintro e w1 ⟨z1,rfl,hx,g1⟩
 obtain ⟨xA1,xa1,xB1,xb1,xA2,xa2,xB2,xb2,xA3,xa3,xB3,xb3,hE,xh1,xh2,xh3⟩:=hx.open
 subst hE
 have KS1 : Bk w1 (w.heap.size) [.string n1,.string n2,.string n3,.string n4]:=Bk.below bkk g1
 have KR1 : Bk w1 (w.heap.size+1) [.bool false,.slice none 0 0,.slice none 0 0,.bool false,.slice none 0 0,.slice none 0 0,.bool false,.slice none 0 0,.slice none 0 0,.bool false,.slice none 0 0,.slice none 0 0]:=Bk.below bkk g1
 have BB1:=bn (w:=w) bel g1
 have zr1:=KR1.lt
 have zs1:=KS1.lt
 clear g1 hx
 obtain ⟨x10,x11,x12,x13, -⟩:=KS1.c4
 go_wp2_with fail
 refine (HQ.out _).mono ?_
 rintro e w2 ⟨z2,rfl,hq,g2⟩
 obtain ⟨qA,qa,qB,qb,hE, -, -⟩:=hq.open
 subst hE
 have KR2 : Bk w2 (w.heap.size+1) [.bool false,.slice none 0 0,.slice none 0 0,.bool false,.slice none 0 0,.slice none 0 0,.bool false,.slice none 0 0,.slice none 0 0,.bool false,.slice none 0 0,.slice none 0 0]:=Bk.below bkk g2
 have KX2 : Bk w2 (w1.heap.size) [.bool (decide (p.n.x.num<0)),.slice xA1 (wds p.n.x.num.natAbs).length xa1,.slice xB1 (wds p.n.x.den).length xb1,.bool (decide (p.n.y.num<0)),.slice xA2 (wds p.n.y.num.natAbs).length xa2,.slice xB2 (wds p.n.y.den).length xb2,.bool (decide (p.n.z.num<0)),.slice xA3 (wds p.n.z.num.natAbs).length xa3,.slice xB3 (wds p.n.z.den).length xb3]:=Bk.below bkk g2
 have xh1:=(xh1.below bup).below g2
 have xh2:=(xh2.below bup).below g2
 have xh3:=(xh3.below bup).below g2
 have BB2:=bn (w:=w) bel g2
 clear g2 KS1 KR1 x10 x11 x12 x13
 go_upto_region 3 with fail
 obtain ⟨W,hW⟩ : ∃ W,W=w2.alloc (.cells #[.bool (decide (p.c.num<0)),.slice qA (wds p.c.num.natAbs).length qa,.slice qB (wds p.c.den).length qb] 84):=⟨_,rfl⟩
 rw [← hW]
 have KX : Bk W (w1.heap.size) [.bool (decide (p.n.x.num<0)),.slice xA1 (wds p.n.x.num.natAbs).length xa1,.slice xB1 (wds p.n.x.den).length xb1,.bool (decide (p.n.y.num<0)),.slice xA2 (wds p.n.y.num.natAbs).length xa2,.slice xB2 (wds p.n.y.den).length xb2,.bool (decide (p.n.z.num<0)),.slice xA3 (wds p.n.z.num.natAbs).length xa3,.slice xB3 (wds p.n.z.den).length xb3]:=by rw [hW]; exact KX2.alloc _
 have KQ : Bk W (w2.heap.size) [.bool (decide (p.c.num<0)),.slice qA (wds p.c.num.natAbs).length qa,.slice qB (wds p.c.den).length qb]:=by rw [hW]; exact bk_at rfl
 have KR : Bk W (w.heap.size+1) [.bool false,.slice none 0 0,.slice none 0 0,.bool false,.slice none 0 0,.slice none 0 0,.bool false,.slice none 0 0,.slice none 0 0,.bool false,.slice none 0 0,.slice none 0 0]:=by rw [hW]; exact KR2.alloc _
 have xh1:=xh1.below (w1:=W) (by rw [hW]; exact ba (br _))
 have xh2:=xh2.below (w1:=W) (by rw [hW]; exact ba (br _))
 have xh3:=xh3.below (w1:=W) (by rw [hW]; exact ba (br _))
 have hq:=hq.below (w1:=W) (by rw [hW]; exact ba (br _))
 have BB : Below w.heap.size w W:=by rw [hW]; exact ba BB2
 have zx:=KX.lt
 have zq:=KQ.lt
 have zw:=BB1.size
 have zw2:=BB2.size
 have zxx:=KX2.lt
 clear hW KX2 KR2 BB2 BB1
 refine wp_region_held_drew (S:=fun w'=>Bk w' w1.heap.size [.bool (decide (p.n.x.num<0)),.slice xA1 (wds p.n.x.num.natAbs).length xa1,.slice xB1 (wds p.n.x.den).length xb1,.bool (decide (p.n.y.num<0)),.slice xA2 (wds p.n.y.num.natAbs).length xa2,.slice xB2 (wds p.n.y.den).length xb2,.bool (decide (p.n.z.num<0)),.slice xA3 (wds p.n.z.num.natAbs).length xa3,.slice xB3 (wds p.n.z.den).length xb3]∧Bk w' w2.heap.size [.bool (decide (p.c.num<0)),.slice qA (wds p.c.num.natAbs).length qa,.slice qB (wds p.c.den).length qb]∧Below w.heap.size w w') (by kernel_rfl) ?_ (fun hHeld=>?_)
 ·exact ⟨KX.drew,KQ.drew,bd BB⟩
 refine wtl 0 (.agg #[.bool (decide (p.n.x.num<0)),.slice xA1 (wds p.n.x.num.natAbs).length xa1,.slice xB1 (wds p.n.x.den).length xb1,.bool (decide (p.n.y.num<0)),.slice xA2 (wds p.n.y.num.natAbs).length xa2,.slice xB2 (wds p.n.y.den).length xb2,.bool (decide (p.n.z.num<0)),.slice xA3 (wds p.n.z.num.natAbs).length xa3,.slice xB3 (wds p.n.z.den).length xb3]) rfl (ld_v rfl (.tmp 4) rfl _ rfl [.bool (decide (p.n.x.num<0)),.slice xA1 (wds p.n.x.num.natAbs).length xa1,.slice xB1 (wds p.n.x.den).length xb1,.bool (decide (p.n.y.num<0)),.slice xA2 (wds p.n.y.num.natAbs).length xa2,.slice xB2 (wds p.n.y.den).length xb2,.bool (decide (p.n.z.num<0)),.slice xA3 (wds p.n.z.num.natAbs).length xa3,.slice xB3 (wds p.n.z.den).length xb3] rfl (fun w' h=>h.1)) hHeld ?_
 try simp only [Act.put,lsx]
 refine wtl 1 (.agg #[.bool (decide (p.c.num<0)),.slice qA (wds p.c.num.natAbs).length qa,.slice qB (wds p.c.den).length qb]) rfl (ld_q rfl (.tmp 6) rfl _ rfl [.bool (decide (p.c.num<0)),.slice qA (wds p.c.num.natAbs).length qa,.slice qB (wds p.c.den).length qb] rfl (fun w' h=>h.2.1)) hHeld ?_
 try simp only [Act.put,lsx]
 refine wtk 2 (.agg #[.bool (decide (p.n.x.num<0)),.slice xA1 (wds p.n.x.num.natAbs).length xa1,.slice xB1 (wds p.n.x.den).length xb1,.bool (decide (p.n.y.num<0)),.slice xA2 (wds p.n.y.num.natAbs).length xa2,.slice xB2 (wds p.n.y.den).length xb2,.bool (decide (p.n.z.num<0)),.slice xA3 (wds p.n.z.num.natAbs).length xa3,.slice xB3 (wds p.n.z.den).length xb3,.bool (decide (p.c.num<0)),.slice qA (wds p.c.num.natAbs).length qa,.slice qB (wds p.c.den).length qb]) rfl rfl (fun w' hS=>?_) hHeld ?_
 ·go_simp
 try simp only [Act.put,lsx]
 refine wtk 3 (.bool true) rfl rfl (fun w' hS=>?_) hHeld ?_
 ·go_simp
 try simp only [Act.put,lsx]
 refine wtk 4 (.bool true) rfl rfl (fun w' hS=>?_) hHeld ?_
 ·go_simp
 try simp only [Act.put,lsx]
 refine wtk 5 (.bool true) rfl rfl (fun w' hS=>?_) hHeld ?_
 ·go_simp
 try simp only [Act.put,lsx]
 refine wtk 6 (.bool true) rfl rfl (fun w' hS=>?_) hHeld ?_
 ·go_simp
 try simp only [Act.put,lsx]
 refine wtk 7 (.bool true) rfl rfl (fun w' hS=>?_) hHeld ?_
 ·go_simp
 try simp only [Act.put,lsx]
 refine wtl 8 (.agg #[.bool (decide (p.n.x.num<0)),.slice xA1 (wds p.n.x.num.natAbs).length xa1,.slice xB1 (wds p.n.x.den).length xb1,.bool (decide (p.n.y.num<0)),.slice xA2 (wds p.n.y.num.natAbs).length xa2,.slice xB2 (wds p.n.y.den).length xb2,.bool (decide (p.n.z.num<0)),.slice xA3 (wds p.n.z.num.natAbs).length xa3,.slice xB3 (wds p.n.z.den).length xb3]) rfl (ld_v rfl (.tmp 4) rfl _ rfl [.bool (decide (p.n.x.num<0)),.slice xA1 (wds p.n.x.num.natAbs).length xa1,.slice xB1 (wds p.n.x.den).length xb1,.bool (decide (p.n.y.num<0)),.slice xA2 (wds p.n.y.num.natAbs).length xa2,.slice xB2 (wds p.n.y.den).length xb2,.bool (decide (p.n.z.num<0)),.slice xA3 (wds p.n.z.num.natAbs).length xa3,.slice xB3 (wds p.n.z.den).length xb3] rfl (fun w' h=>h.1)) hHeld ?_
 try simp only [Act.put,lsx]
 refine wrd 9 rfl (fun K hK=>?_)
 rw [if_pos (by rfl)]
 go_wp2_with fail
 obtain ⟨s0,s1,s3⟩:=hHeld
 refine (HZ.out _ _ ((vn_mk xh1 xh2 xh3).below (bd (br _)))).mono ?_
 rintro e w3 ⟨rfl,g⟩
 have KR3:=KR.drew.below g
 have PP:=(pn_mk (p:=p) xh1 xh2 xh3 hq).below (bn (bd (br _)) g)
 refine hK.out _ _ ⟨s0.below g,s1.below g,bn s3 g⟩ (fun hHeld=>?_)
 clear g s0 s1 s3 hK K
 try simp only [Act.put,lsx]
 refine wtk 10 (.bool true) rfl rfl (fun w' hS=>?_) hHeld ?_
 ·go_simp
 try simp only [Act.put,lsx]
 refine wtk 11 (.bool true) rfl rfl (fun w' hS=>?_) hHeld ?_
 ·go_simp
 try simp only [Act.put,lsx]
 refine wrd 12 rfl (fun K hK=>?_)
 obtain ⟨s0,s1,s3⟩:=hHeld
 refine step_store_row2 (w0:=w) (B:=w.heap.size) (b:=w.heap.size+1) (cs:=[.bool (decide (p.n.x.num<0)),.slice xA1 (wds p.n.x.num.natAbs).length xa1,.slice xB1 (wds p.n.x.den).length xb1,.bool (decide (p.n.y.num<0)),.slice xA2 (wds p.n.y.num.natAbs).length xa2,.slice xB2 (wds p.n.y.den).length xb2,.bool (decide (p.n.z.num<0)),.slice xA3 (wds p.n.z.num.natAbs).length xa3,.slice xB3 (wds p.n.z.den).length xb3,.bool (decide (p.c.num<0)),.slice qA (wds p.c.num.natAbs).length qa,.slice qB (wds p.c.den).length qb]) (by rfl) 160 (.tmp 2) (.tmp 22) (by rfl) (by rfl) (by rfl) KR3 (by rfl) (by simp) (by rfl) (by kernel_rfl) s3 (by omega) ?_
 intro W7 K7 G7 KP7 FR7 FB7
 refine hK.out _ _ ⟨FB7 _ _ (by omega) s0,FB7 _ _ (by omega) s1,G7⟩ (fun hHeld=>?_)
 clear hK K
 try simp only [Act.put,lsx]
 refine wtk 13 (.bool true) rfl rfl (fun w' hS=>?_) hHeld ?_
 ·go_simp
 try simp only [Act.put,lsx]
 refine wpAnyH_done (by kernel_rfl) ?_ _
 have m0:=K7.cell 0 _ rfl
 have m1:=K7.cell 1 _ rfl
 have m2:=K7.cell 2 _ rfl
 have m3:=K7.cell 3 _ rfl
 have m4:=K7.cell 4 _ rfl
 have m5:=K7.cell 5 _ rfl
 have m6:=K7.cell 6 _ rfl
 have m7:=K7.cell 7 _ rfl
 have m8:=K7.cell 8 _ rfl
 have m9:=K7.cell 9 _ rfl
 have m10:=K7.cell 10 _ rfl
 have m11:=K7.cell 11 _ rfl
 go_wp2
 refine bodyPost_ret (v:=.tuple #[.agg #[.bool (decide (p.n.x.num<0)),.slice xA1 (wds p.n.x.num.natAbs).length xa1,.slice xB1 (wds p.n.x.den).length xb1,.bool (decide (p.n.y.num<0)),.slice xA2 (wds p.n.y.num.natAbs).length xa2,.slice xB2 (wds p.n.y.den).length xb2,.bool (decide (p.n.z.num<0)),.slice xA3 (wds p.n.z.num.natAbs).length xa3,.slice xB3 (wds p.n.z.den).length xb3,.bool (decide (p.c.num<0)),.slice qA (wds p.c.num.natAbs).length qa,.slice qB (wds p.c.den).length qb],.bool true]) (by simp [results,Tryz.results119,go_sem, *]) rfl ?_
 exact ⟨_,rfl,PP.keep KP7,G7⟩
set_option maxRecDepth 100000 in
set_option maxHeartbeats 4000000 in
theorem wSide_walk (p : Pl) (a : V3) (h0 : p.n≠V3.zero) (hp : p.le 1000000) (ha : a.le 1000000) (w : World) :
  Calls Tryz.prog 82 #[PV p,VV a] w fun e w'=>e=.returned (.tuple #[.int .i64 (rsg (p.height a)),.int .i64 0])∧Below w.heap.size w w':=by
 have ta:=txv_le ha
 have HR:=Lib.hid (fun w=>wReadPlane_walk p h0 hp w)
 have HF:=Lib.hid (fun w=>wFrom_walk (txv a) ⟨Nat.le_trans ta.1 (by omega),Nat.le_trans ta.2.1 (by omega),Nat.le_trans ta.2.2 (by omega)⟩ w)
 rw [isVec_txv,vOf_txv,txv_val,VV_eq] at HF
 have HH:=Lib.hid (fun u v W (h : Pn W u p) (g : Vn W v a)=>wHeight_walk u v p a W h g hp ha)
 have HS:=Lib.hid (fun u W (h : Qn W u (p.height a))=>qSign_rsg u (p.height a) W h)
 rw [PV_eq] at HR ⊢
 rw [VV_eq]
 clear ta hp h0 ha
 generalize rtx p.n.x=n1 at *
 generalize rtx p.n.y=n2 at *
 generalize rtx p.n.z=n3 at *
 generalize rtx p.c=n4 at *
 generalize rtx a.x=a1 at *
 generalize rtx a.y=a2 at *
 generalize rtx a.z=a3 at *
 generalize rsg (p.height a)=s at *
 generalize p.height a=hh at *
 go_enter Tryz.func82,Tryz.ntmps82
 go_wp2_with fail
 refine (HR.out _).mono ?_
 rintro e w1 ⟨z1,rfl,hx,g1⟩
 obtain ⟨xA1,xa1,xB1,xb1,xA2,xa2,xB2,xb2,xA3,xa3,xB3,xb3,qA,qa,qB,qb,hE, -, -, -, -⟩:=hx.open
 subst hE
 have KS1 : Bk w1 (w.heap.size+1) [.string a1,.string a2,.string a3]:=Bk.below bkk g1
 have BB1:=bn (w:=w) bel g1
 clear g1
 obtain ⟨x10,x11,x12, -⟩:=KS1.c3
 have zs1:=KS1.lt
 go_wp2_with fail
 refine (HF.out _).mono ?_
 rintro e w2 ⟨z2,rfl,hy,g2⟩
 obtain ⟨aA1,aa1,aB1,ab1,aA2,aa2,aB2,ab2,aA3,aa3,aB3,ab3,hE,ah1,ah2,ah3⟩:=hy.open
 subst hE
 have KU2 : Bk w2 (w1.heap.size) [.bool (decide (p.n.x.num<0)),.slice xA1 (wds p.n.x.num.natAbs).length xa1,.slice xB1 (wds p.n.x.den).length xb1,.bool (decide (p.n.y.num<0)),.slice xA2 (wds p.n.y.num.natAbs).length xa2,.slice xB2 (wds p.n.y.den).length xb2,.bool (decide (p.n.z.num<0)),.slice xA3 (wds p.n.z.num.natAbs).length xa3,.slice xB3 (wds p.n.z.den).length xb3,.bool (decide (p.c.num<0)),.slice qA (wds p.c.num.natAbs).length qa,.slice qB (wds p.c.den).length qb]:=Bk.below bkk g2
 have hx:=(hx.below bup).below g2
 have BB2:=bn (w:=w) bel g2
 clear g2 KS1 x10 x11 x12 BB1 ah1 ah2 ah3
 have m0:=KU2.cell 0 _ rfl
 have m1:=KU2.cell 1 _ rfl
 have m2:=KU2.cell 2 _ rfl
 have m3:=KU2.cell 3 _ rfl
 have m4:=KU2.cell 4 _ rfl
 have m5:=KU2.cell 5 _ rfl
 have m6:=KU2.cell 6 _ rfl
 have m7:=KU2.cell 7 _ rfl
 have m8:=KU2.cell 8 _ rfl
 have m9:=KU2.cell 9 _ rfl
 have m10:=KU2.cell 10 _ rfl
 have m11:=KU2.cell 11 _ rfl
 have zu:=KU2.lt
 go_wp2_with fail
 refine (HH.out _ _ _ (hx.below bup) (hy.below bup)).mono ?_
 rintro e w3 ⟨z3,rfl,hz,g3⟩
 obtain ⟨rA,ra,rB,rb,hE, -, -⟩:=hz.open
 subst hE
 have BB3:=bn (w:=w) bel g3
 clear g3 m0 m1 m2 m3 m4 m5 m6 m7 m8 m9 m10 m11 KU2
 go_wp2_with fail
 refine (HS.out _ _ hz).mono ?_
 rintro e w4 ⟨rfl,g4⟩
 have BB4:=bn (w:=w) bel g4
 clear g4
 go_wp2
 go_ret2
 exact ⟨rfl,BB4⟩
end Go.Proofs.YtbnbaokamccmjaaGreatDoor

/- garboardref12: Convex. -/
namespace Go.Proofs.YtbnbaokamccmjaaGreatDoor
open Go Go.RowKit
set_option maxHeartbeats 1000000 in
theorem rConvex_bad (v : Value) (l : List TV) (z : Int) (w : World) (hv : Ts w v l) (hs : tle l 10000000) (hz : chkC l=z) (h0 : z≠0) :
  Calls Tryz.prog 37 #[v] w fun e w'=>e=.returned (.tuple #[.bool false,.int .i64 z])∧Below w.heap.size w w':=by
 have H:=Lib.hid (fun w hv=>rPoints_bad v l z w hv hs hz h0)
 obtain ⟨A,cap,rfl,hn,hc,hcell⟩:=hv.open
 clear hcell hn hc hs hz
 go_enter Tryz.func37,Tryz.ntmps37
 go_wp2_with fail
 refine (H.out _ (hv.below bel)).mono ?_
 rintro e w1 ⟨rfl,g1⟩
 have B1:=bn (w:=w) bel g1
 clear g1
 go_wp2
 go_ret2
 exact ⟨rfl,bel⟩
set_option maxHeartbeats 4000000 in
set_option maxRecDepth 100000 in
theorem rConvex_ok (v : Value) (L : List (Tr V3)) (w : World) (hv : Ts w v (L.map txt)) (hs : ∀ t ∈ L,t.a.le 30000∧t.b.le 30000∧t.c.le 30000) (hz : chkC (L.map txt)=0) :
  Calls Tryz.prog 37 #[v] w fun e w'=>e=.returned (.tuple #[.bool (convexL L),.int .i64 0])∧Below w.heap.size w w':=by
 have hle:=tle_txt hs (show 2 * 30000+2≤10000000 by omega)
 have hp:=chkC_zero hz
 have H2:=Lib.hid (fun w hv=>rPoints_ok v (L.map txt) w hv hle hz)
 have hlen : (L.map txt).length=L.length:=List.length_map _
 rw [points_txt] at H2
 have HB:=Lib.hid (mem_points hs)
 have HS:=Lib.hid hs
 have HV:=Lib.hid hv
 obtain ⟨A,cap,rfl,hn,hc,hcell⟩:=hv.open
 have HCL:=Lib.hid hcell
 rw [hlen] at hn H2 HCL HV ⊢
 have hn512 : L.length≤512:=by omega
 clear hcell hp hlen hz hle hs hv
 obtain ⟨n,hn0⟩ : ∃ n,n=L.length:=⟨_,rfl⟩
 have HG:=Lib.hid (fun k (hk : k<n)=>(show ∃ t,L[k]?=some t from ⟨_,List.getElem?_eq_getElem (by rw [← hn0]; exact hk)⟩))
 have HTE:=Lib.hid (show L.take L.length=L from List.take_length)
 have HN0:=Lib.hid hn0
 rw [← hn0] at hn H2 HCL HV HTE hn512 ⊢
 clear hn0
 have HCX:=Lib.hid (convexL_eq L)
 obtain ⟨ps,hps⟩ : ∃ ps,ps=pointsL L:=⟨_,rfl⟩
 rw [← hps] at H2 HB HCX
 clear hps
 go_enter Tryz.func37,Tryz.ntmps37
 go_wp2_with fail
 refine (H2.out _ (HV.out.below bel)).mono ?_
 rintro e w2 ⟨_,rfl,⟨u,rfl,hu⟩,g2⟩
 have B2:=bn (w:=w) bel g2
 clear g2
 obtain ⟨Ap,capp,rfl,hnp,hcp,hcellp⟩:=hu.open
 rw [tvs_length] at *
 have HCP:=Lib.hid hcellp
 have HPE:=Lib.hid (show ps.take ps.length=ps from List.take_length)
 have HGP:=Lib.hid (fun j (hj : j<ps.length)=>(show ∃ p,ps[j]?=some p from ⟨_,List.getElem?_eq_getElem hj⟩))
 obtain ⟨m,hm0⟩ : ∃ m,m=ps.length:=⟨_,rfl⟩
 rw [← hm0] at hnp HCP HPE HGP ⊢
 clear hm0 hcellp hu
 go_wp2
 go_loopw [6] (fun ii wr=>∃ i : Nat,i≤n∧ii=.int .i64 i∧Hid ((L.take i).all (under ps)=true)∧Below w2.heap.size w2 wr) (fun ii _=>n - (intOf ii).toNat)
 case atStart=>exact ⟨0,Nat.zero_le _,rfl,Lib.hid rfl,Below.refl _ _⟩
 case round =>
  obtain ⟨i,hi,rfl,hd,hb⟩:=hrel
  have hsz:=hb.size
  have hbw : Below w.heap.size w wr:=bn B2 hb
  by_cases hlt : i<n
  ·obtain ⟨t,hg⟩:=HG.out i hlt
   obtain ⟨b,off,rfl,hcl⟩:=HCL.out (by omega)
   have hgt : (L.map txt)[i]?=some (txt t):=by rw [List.getElem?_map,hg]; rfl
   obtain ⟨c0,c1,c2,c3,c4,c5,c6,c7,c8⟩:=ts_nine (hcl _ _ hgt)
   obtain ⟨l1,l2,l3⟩:=HS.out t (List.mem_of_getElem? hg)
   have HTH:=Lib.hid (fun w=>wThrough_walk t.a t.b t.c l1 l2 l3 w)
   have HSI:=Lib.hid (fun (hz : thrN t.a t.b t.c≠V3.zero) p (hp : p ∈ ps) w=>wSide_walk (thrP t.a t.b t.c) p hz (thrP_le l1 l2 l3 (by omega)) ((HB.out p hp).mono (by omega)) w)
   have HGD:=Lib.hid (fun (h : under ps t=true)=>take_all hg hd.out h)
   have HBD : Hid (under ps t=false→convexL L=false):=Lib.hid (fun h=>by rw [HCX.out]; exact List.all_eq_false.2 ⟨t,List.mem_of_getElem? hg,by rw [h]; decide⟩)
   have d0:=cell_below hbw c0
   have d1:=cell_below hbw c1
   have d2:=cell_below hbw c2
   have d3:=cell_below hbw c3
   have d4:=cell_below hbw c4
   have d5:=cell_below hbw c5
   have d6:=cell_below hbw c6
   have d7:=cell_below hbw c7
   have d8:=cell_below hbw c8
   clear hg hgt hcl l1 l2 l3 hd c0 c1 c2 c3 c4 c5 c6 c7 c8
   obtain ⟨ta,tb,tc⟩:=t
   have hi0 : (0 : Int)≤(i : Int):=by omega
   have hin : (i : Int)<(n : Int):=by omega
   simp only [txt,Tr.map,txv] at d0 d1 d2 d3 d4 d5 d6 d7 d8
   dsimp only at HTH HSI
   rw [VV_eq ta,VV_eq tb,VV_eq tc] at HTH
   generalize rtx ta.x=ax at *
   generalize rtx ta.y=ay at *
   generalize rtx ta.z=az at *
   generalize rtx tb.x=bx at *
   generalize rtx tb.y=by1 at *
   generalize rtx tb.z=bz at *
   generalize rtx tc.x=cx at *
   generalize rtx tc.y=cy at *
   generalize rtx tc.z=cz at *
   by_cases hz : thrN ta tb tc=V3.zero
   ·have E:=Lib.hid (HGD.out (by unfold under; simp [hz]))
    have e1 : thrE ta tb tc=16:=if_pos hz
    have e2 : thrV ta tb tc=.agg #[.string ⟨#[]⟩,.string ⟨#[]⟩,.string ⟨#[]⟩,.string ⟨#[]⟩]:=if_pos hz
    rw [e1,e2] at HTH
    clear HSI HGD HBD hz e1 e2
    go_upto_region 7 with fail
    go_cut [7,8] (fun s7 s8 wx=>∃ p : Nat,s7=.pointer (some ⟨p,0,none⟩)∧s8=.int .i64 16∧Below wr.heap.size wr wx)
    case first =>
     go_region_held3 (fun w'=>w'.cell? ⟨b,off+i * 9,none⟩=some (.string ax)∧w'.cell? ⟨b,off+i * 9+1,none⟩=some (.string ay)∧w'.cell? ⟨b,off+i * 9+2,none⟩=some (.string az)∧w'.cell? ⟨b,off+i * 9+3,none⟩=some (.string bx)∧w'.cell? ⟨b,off+i * 9+4,none⟩=some (.string by1)∧w'.cell? ⟨b,off+i * 9+5,none⟩=some (.string bz)∧w'.cell? ⟨b,off+i * 9+6,none⟩=some (.string cx)∧w'.cell? ⟨b,off+i * 9+7,none⟩=some (.string cy)∧w'.cell? ⟨b,off+i * 9+8,none⟩=some (.string cz)∧Below wr.heap.size wr w')
      ((refine (fun hb=>⟨bc hb d0,bc hb d1,bc hb d2,bc hb d3,bc hb d4,bc hb d5,bc hb d6,bc hb d7,bc hb d8,hb⟩) ?_; go_split_ands; repeat (first | with_reducible assumption | (with_reducible exact bd (br _)) | (with_reducible exact br _) | (with_reducible refine bn ?_ g) | (with_reducible refine ba ?_) | (with_reducible refine bd ?_) | (refine bs ?_ ?_; rotate_left; ((try simp)<;>omega)))))
      ((go_at_call 81; refine (HTH.out _).mono ?_; rintro e wx1 ⟨rfl,g⟩; have BX : Below wr.heap.size wr wx1:=bn (by go_split_ands; assumption) g; have hzx:=BX.size; (first | (with_reducible have q:=Bk.below q g) | (with_reducible have q:=((bk_new _ #[.string ⟨#[]⟩,.string ⟨#[]⟩,.string ⟨#[]⟩,.string ⟨#[]⟩] 104).drew).below g) | (with_reducible have q:=(bk_new _ #[.string ⟨#[]⟩,.string ⟨#[]⟩,.string ⟨#[]⟩,.string ⟨#[]⟩] 104).below g) | skip); (try obtain ⟨o0,o1,o2,o3,f0,f1,f2,f3⟩:=q.c4); (try have hq:=q.lt)))
     all_goals
      go_split_ands
      go_wp2_with fail
      go_meet
      first
       | exact ⟨_,rfl,rfl,by with_reducible assumption⟩
    case rest =>
     obtain ⟨p,rfl,rfl,hbc⟩:=hcut
     have hb3 : Below w2.heap.size w2 wc:=bn hb hbc
     clear d0 d1 d2 d3 d4 d5 d6 d7 d8 hbc
     go_wp2
     refine wp_loop_rounds 1 ?_
     rw [rounds_succ]
     go_wp2
     all_goals
      go_roundw
      case rel=>exact ⟨i+1,by omega,by go_num,E,hb3⟩
      case measure=>simp [intOf]; omega
   ·have e1 : thrE ta tb tc=0:=if_neg hz
    have e2 : thrV ta tb tc=PV (thrP ta tb tc):=if_neg hz
    have HSI2:=Lib.hid (fun p hp=>HSI.out hz p hp)
    have HGD2 : Hid ((∀ p ∈ ps,(thrP ta tb tc).height p≤0)→(L.take (i+1)).all (under ps)=true):=Lib.hid (fun h=>HGD.out (by
     unfold under
     rw [Bool.or_eq_true]
     right
     rw [List.all_eq_true]
     intro p hp
     exact decide_eq_true (h p hp)))
    have HBD2 : Hid (∀ p ∈ ps,¬ (thrP ta tb tc).height p≤0→convexL L=false):=Lib.hid (fun p hp h=>HBD.out (by
     unfold under
     rw [decide_eq_false hz,Bool.false_or]
     exact List.all_eq_false.2 ⟨p,hp,by simpa using h⟩))
    rw [e1,e2,PV_eq] at HTH
    clear HSI HGD HBD hz e1 e2
    rw [PV_eq] at HSI2
    generalize rtx (thrP ta tb tc).n.x=q1 at *
    generalize rtx (thrP ta tb tc).n.y=q2 at *
    generalize rtx (thrP ta tb tc).n.z=q3 at *
    generalize rtx (thrP ta tb tc).c=q4 at *
    go_upto_region 7 with fail
    go_cut [7,8] (fun s7 s8 wx=>∃ p : Nat,s7=.pointer (some ⟨p,0,none⟩)∧s8=.int .i64 0∧Hid (Bk wx p [.string q1,.string q2,.string q3,.string q4])∧Below wr.heap.size wr wx)
    case first =>
     go_region_held3 (fun w'=>w'.cell? ⟨b,off+i * 9,none⟩=some (.string ax)∧w'.cell? ⟨b,off+i * 9+1,none⟩=some (.string ay)∧w'.cell? ⟨b,off+i * 9+2,none⟩=some (.string az)∧w'.cell? ⟨b,off+i * 9+3,none⟩=some (.string bx)∧w'.cell? ⟨b,off+i * 9+4,none⟩=some (.string by1)∧w'.cell? ⟨b,off+i * 9+5,none⟩=some (.string bz)∧w'.cell? ⟨b,off+i * 9+6,none⟩=some (.string cx)∧w'.cell? ⟨b,off+i * 9+7,none⟩=some (.string cy)∧w'.cell? ⟨b,off+i * 9+8,none⟩=some (.string cz)∧Below wr.heap.size wr w')
      ((refine (fun hb=>⟨bc hb d0,bc hb d1,bc hb d2,bc hb d3,bc hb d4,bc hb d5,bc hb d6,bc hb d7,bc hb d8,hb⟩) ?_; go_split_ands; repeat (first | with_reducible assumption | (with_reducible exact bd (br _)) | (with_reducible exact br _) | (with_reducible refine bn ?_ g) | (with_reducible refine ba ?_) | (with_reducible refine bd ?_) | (refine bs ?_ ?_; rotate_left; ((try simp)<;>omega)))))
      ((go_at_call 81; refine (HTH.out _).mono ?_; rintro e wx1 ⟨rfl,g⟩; have BX : Below wr.heap.size wr wx1:=bn (by go_split_ands; assumption) g; have hzx:=BX.size; (first | (with_reducible have q:=Bk.below q g) | (with_reducible have q:=((bk_new _ #[.string ⟨#[]⟩,.string ⟨#[]⟩,.string ⟨#[]⟩,.string ⟨#[]⟩] 104).drew).below g) | (with_reducible have q:=(bk_new _ #[.string ⟨#[]⟩,.string ⟨#[]⟩,.string ⟨#[]⟩,.string ⟨#[]⟩] 104).below g) | skip); (try obtain ⟨o0,o1,o2,o3,f0,f1,f2,f3⟩:=q.c4); (try have hq:=q.lt)))
     all_goals
      go_split_ands
      go_wp2_with fail
      go_meet
      first
       | exact ⟨_,rfl,rfl,Lib.hid (bk_at rfl),by with_reducible assumption⟩
       | exact ⟨_,rfl,rfl,Lib.hid ((((q.set 0 (by simp) _).set 1 (by simp) _).set 2 (by simp) _).set 3 (by simp) _),by with_reducible assumption⟩
    case rest =>
     obtain ⟨p,rfl,rfl,HK,hbc⟩:=hcut
     obtain ⟨W,hWW⟩ : ∃ x,x=wc:=⟨_,rfl⟩
     subst hWW
     obtain ⟨p0,p1,p2,p3, -, -, -, -⟩:=HK.out.c4
     have bW : Below w2.heap.size w2 W:=bn hb hbc
     have bWw : Below w.heap.size w W:=bn B2 bW
     clear d0 d1 d2 d3 d4 d5 d6 d7 d8 hbc HK
     obtain ⟨wo,hwo⟩ : ∃ x,x=wr:=⟨_,rfl⟩
     subst hwo
     go_wp2
     go_loopw [9] (fun jj wr=>∃ j : Nat,j≤m∧jj=.int .i64 j∧Hid (∀ p ∈ ps.take j,(thrP ta tb tc).height p≤0)∧Below W.heap.size W wr) (fun jj _=>m - (intOf jj).toNat)
     case atStart=>exact ⟨0,Nat.zero_le _,rfl,Lib.hid (by simp),Below.refl _ _⟩
     case round =>
      obtain ⟨j,hj,rfl,hh,hb5⟩:=hrel
      have hsz5:=hb5.size
      have hbw5 : Below w.heap.size w wr:=bn bWw hb5
      have hb25 : Below w2.heap.size w2 wr:=bn bW hb5
      by_cases hlt2 : j<m
      ·obtain ⟨pt,hg⟩:=HGP.out j hlt2
       obtain ⟨b3,off3,rfl,hcl3⟩:=HCP.out (by omega)
       have hgp : (tvs ps)[j]?=some (txv pt):=by unfold tvs; rw [List.getElem?_map,hg]; rfl
       obtain ⟨x0,x1,x2⟩:=hcl3 _ _ hgp
       have y0:=cell_below hb25 x0
       have y1:=cell_below hb25 x1
       have y2:=cell_below hb25 x2
       have z0:=cell_below hb5 p0
       have z1:=cell_below hb5 p1
       have z2:=cell_below hb5 p2
       have z3:=cell_below hb5 p3
       skip
       have HSD:=Lib.hid (fun w=>HSI2.out pt (List.mem_of_getElem? hg) w)
       have HN1 : Hid (0<rsg ((thrP ta tb tc).height pt)→convexL L=false):=Lib.hid (fun h=>HBD2.out pt (List.mem_of_getElem? hg) (rsg_pos h))
       have HN2 : Hid (¬ 0<rsg ((thrP ta tb tc).height pt)→∀ p ∈ ps.take (j+1),(thrP ta tb tc).height p≤0):=Lib.hid (fun h p hp=>by
        have hlt3 : j<ps.length:=(List.getElem?_eq_some_iff.1 hg).1
        have e : ps[j]=pt:=(List.getElem?_eq_some_iff.1 hg).2
        rw [List.take_succ_eq_append_getElem hlt3,e] at hp
        rcases List.mem_append.1 hp with hp | hp
        ·exact hh.out p hp
        ·simp at hp
         rw [hp]
         exact rsg_npos h)
       have hj0 : (0 : Int)≤(j : Int):=by omega
       have hjm : (j : Int)<(m : Int):=by omega
       clear x0 x1 x2 hgp hg hcl3 hh
       simp only [txv] at y0 y1 y2
       rw [VV_eq pt] at HSD
       generalize rtx pt.x=o1 at *
       generalize rtx pt.y=o2 at *
       generalize rtx pt.z=o3 at *
       generalize rsg ((thrP ta tb tc).height pt)=s at *
       go_wp2_with fail
       go_region_held3 (fun w'=>w'.cell? ⟨p,0,none⟩=some (.string q1)∧w'.cell? ⟨p,1,none⟩=some (.string q2)∧w'.cell? ⟨p,2,none⟩=some (.string q3)∧w'.cell? ⟨p,3,none⟩=some (.string q4)∧w'.cell? ⟨b3,off3+j * 3,none⟩=some (.string o1)∧w'.cell? ⟨b3,off3+j * 3+1,none⟩=some (.string o2)∧w'.cell? ⟨b3,off3+j * 3+2,none⟩=some (.string o3)∧Below wr.heap.size wr w')
        ((refine (fun hb=>⟨bc hb z0,bc hb z1,bc hb z2,bc hb z3,bc hb y0,bc hb y1,bc hb y2,hb⟩) ?_; go_split_ands; repeat (first | with_reducible assumption | (with_reducible exact bd (br _)) | (with_reducible exact br _) | (with_reducible refine bn ?_ g) | (with_reducible refine ba ?_) | (with_reducible refine bd ?_) | (refine bs ?_ ?_; rotate_left; ((try simp)<;>omega)))))
        ((go_at_call 82; refine (HSD.out _).mono ?_; rintro e w6 ⟨rfl,g⟩; have hb6 : Below wr.heap.size wr w6:=bn (by go_split_ands; assumption) g))
       have hb66 : Below W.heap.size W w6:=bn hb5 hb6
       have hbw6 : Below w.heap.size w w6:=bn bWw hb66
       by_cases hsp : 0<s
       ·have E:=Lib.hid (HN1.out hsp)
        clear HN1 HN2
        go_wp2
        go_ret2
        exact ⟨by rw [E.out]; rfl,hbw6⟩
       ·have E:=Lib.hid (HN2.out (Int.not_lt.1 hsp))
        have hsp2 : s≤0:=by omega
        clear HN1 HN2
        go_wp2
        go_roundw
        case rel=>exact ⟨j+1,by omega,by go_num,E,hb66⟩
        case measure=>simp [intOf]; omega
      ·obtain rfl : j=m:=by omega
       rw [HPE.out] at hh
       have E:=Lib.hid (HGD2.out hh.out)
       clear hh
       go_wp2
       go_roundw
       case rel=>exact ⟨i+1,by omega,by go_num,E,hb25⟩
       case measure=>simp [intOf]; omega
  ·obtain rfl : i=n:=by omega
   rw [HTE.out] at hd
   have E : Hid (convexL L=true):=Lib.hid (by rw [HCX.out]; exact hd.out)
   clear hd
   go_wp2
   go_ret2
   exact ⟨by rw [E.out]; rfl,bel⟩
end Go.Proofs.YtbnbaokamccmjaaGreatDoor
