
/- clip: pieces (the iterator's value); split: the walk. -/
import Derived.RangeFuncNested
import Derived.RangeFuncBound
import Derived.RangeFuncCalls
import Derived.RangeFuncBox
import Derived.RangeFuncLeaves
import Derived.Shelf.Abstract
import Derived.Shelf.RegionOpen
import Derived.WalkKit
import Derived.OwnWalkIn
import Derived.TacticsInMore
import Derived.LoopNIn
import Derived.LoopIn
import Derived.Laws.EntriesVeiled
import Derived.Test.YtopfedbhkfdjkaaGreatDoorF2
import Derived.Test.YtopfedbhkfdjkaaGreatDoorE9
import Derived.Test.YtopfedbhkfdjkaaGreatDoorF1
import Derived.Test.YtopfedbhkfdjkaaGreatDoorED
import Derived.Test.YtopfedbhkfdjkaaGreatDoorE6
set_option linter.unusedVariables false
set_option linter.unusedSimpArgs false
namespace Go.Proofs.YtopfedbhkfdjkaaGreatDoor
open Go Go.RowKit
attribute [local go_sem] Oper.semAt_some
structure PcF (A : Option Addr) (n cap : Nat) (p1 p2 p3 p4 : ByteArray) (sb : Nat) (w w' : World) : Prop where
 k1 : Bk w' w.heap.size [.slice A n cap]
 k2 : Bk w' (w.heap.size+1) [.string p1,.string p2,.string p3,.string p4]
 k3 : Bk w' (w.heap.size+1+1) [.func (.func 84) #[] #[.pointer (some ⟨sb,0,none⟩)]]
 bel : Below w.heap.size w w'
set_option maxHeartbeats 2000000 in
theorem pieces_walk (A : Option Addr) (n cap : Nat) (p1 p2 p3 p4 : ByteArray) (sb : Nat) (w : World) :
  Calls Tryz.prog 83 #[.slice A n cap,.agg #[.string p1,.string p2,.string p3,.string p4],.func (.func 84) #[] #[.pointer (some ⟨sb,0,none⟩)]] w fun e w' =>
   e=.returned (.func (.func 129) #[] #[.pointer (some ⟨w.heap.size,0,none⟩),.pointer (some ⟨w.heap.size+1,0,none⟩),.pointer (some ⟨w.heap.size+1+1,0,none⟩)])∧PcF A n cap p1 p2 p3 p4 sb w w':=by
 go_enter Tryz.func83,Tryz.ntmps83
 go_wp2
 go_ret
 exact ⟨rfl,⟨bkk,bkk,bkk,bel⟩⟩
def PcD : Pc→List TV | .inl (t,false)=>[txt t] | _=>[]
def PcU : Pc→List TV | .inl (t,true)=>[txt t] | _=>[]
def PcS : Pc→List (SV × SV) | .inr (d,e)=>[(txv d,txv e)] | _=>[]
def txe (e : V3 × V3) : SV × SV:=(txv e.1,txv e.2)
theorem pcs_dn (p : Pl) (L : List (Tr V3)) : (L.flatMap (pcs p)).flatMap PcD=(dnL p L).map txt∧(L.flatMap (pcs p)).flatMap PcU=(upL p L).map txt∧(L.flatMap (pcs p)).flatMap PcS=(seL p L).map txe:=by
 have h3 : ∀ a b c f,(pcs3 p a b c f).flatMap PcD=(if f then rest p a b c else [lone p a b c]).map txt∧(pcs3 p a b c f).flatMap PcU=(if f then [lone p a b c] else rest p a b c).map txt∧(pcs3 p a b c f).flatMap PcS=(edgeA p a b c f).map txe:=by
  intro a b c f
  unfold pcs3 edgeA rest
  by_cases h : crossV p a b=crossV p a c
  ·cases f<;>simp [h,PcD,PcU,PcS]
  ·cases f<;>simp [h,PcD,PcU,PcS,txe]
 induction L with
 | nil=>exact ⟨rfl,rfl,rfl⟩
 | cons t L ih =>
  have h1 : (pcs p t).flatMap PcD=(dnT p t).map txt∧(pcs p t).flatMap PcU=(upT p t).map txt∧(pcs p t).flatMap PcS=(seT p t).map txe:=by
   unfold pcs dnT upT seT
   cases upP p t.a<;>cases upP p t.b<;>cases upP p t.c<;>first | exact h3 _ _ _ _ | exact ⟨rfl,rfl,rfl⟩
  unfold dnL upL seL at *
  rw [List.flatMap_cons,List.flatMap_append,List.flatMap_append,List.flatMap_append,ih.1,ih.2.1,ih.2.2,h1.1,h1.2.1,h1.2.2,List.flatMap_cons,List.flatMap_cons,List.flatMap_cons,List.map_append,List.map_append,List.map_append]
  exact ⟨rfl,rfl,rfl⟩
def SplI (w : World) (pb sb B b1 b2 b3 : Nat) (x1 x2 x3 : Value) (vs : List Value) (xs : List Pc) (W : World) : Prop :=
 ∃ v0 v1 v2,SPI pb sb B (xs.flatMap PcD) (xs.flatMap PcU) (xs.flatMap PcS) v0 v1 v2 W∧Below w.heap.size w W∧Bo (XS pb sb) W b1 [x1]∧Bo (XS pb sb) W b2 (x2 :: vs)∧Bo (XS pb sb) W b3 [x3]
section
variable {w : World} {pb sb B b1 b2 b3 : Nat} {x1 x2 x3 : Value} {vs : List Value}
theorem SplI.law : XLaw (XS pb sb) (fun W=>∃ xs,SplI w pb sb B b1 b2 b3 x1 x2 x3 vs xs W):=by
 rintro A A' k ⟨xs,v0,v1,v2,h, -⟩ g hX
 have h':=h.below g
 rcases h'.cases hX with h1 | h1 | h1 | h1 | h1 | h1
 ·exact .inl ⟨by rw [h1]; exact h.kp.lt,.inl h1⟩
 ·exact .inl ⟨by rw [h1]; exact h.ks.lt,.inr (.inl h1)⟩
 ·exact .inl ⟨(h.row (.inl h1)).2.1,h.x0 h1⟩
 ·exact .inl ⟨(h.row (.inr (.inl h1))).2.1,h.x1 h1⟩
 ·exact .inl ⟨(h.row (.inr (.inr h1))).2.1,h.x2 h1⟩
 ·exact .inr h1
theorem SplI.own (hB : w.heap.size≤B) : OwnFrom B (SplI w pb sb B b1 b2 b3 x1 x2 x3 vs):=by
 rintro xs W W' row ⟨v0,v1,v2,h,hb,k1,k2,k3⟩ g hr
 exact ⟨v0,v1,v2,h.grown g hr,ownFrom_below (Nat.le_refl _) hB xs W W' row hb g hr,bo_grown h g hr k1,bo_grown h g hr k2,bo_grown h g hr k3⟩
theorem SplI.put {W : World} {l : Nat} {o o' : Obj} (hp : pb<l) (hs : sb<l) (hl : W.heap[l]?=some o) (ho : o.isCells=false) : Kx (XS pb sb) W (W.putObj l o'):=by
 have e : ∀ k,k≠l→(W.putObj l o').heap[k]?=W.heap[k]?:=fun k hk=>World.putObj_heap_other hk
 refine ⟨by simp,fun k hk hn=>e k (fun h=>hn (by rw [h]; exact .inr (.inr (.inr (.inr ⟨o,hl,ho⟩))))),fun k hk hX=>?_⟩
 rcases hX with h1 | h1 | ⟨i,v,hi,hc,h1⟩ | ⟨v,hc,h1⟩ | ⟨q,hq,h1⟩
 ·exact .inl h1
 ·exact .inr (.inl h1)
 ·refine .inr (.inr (.inl ⟨i,v,hi, ?_,h1⟩))
  rw [← hc]
  exact (World.cell?_of_block (e pb (by omega))).symm
 ·refine .inr (.inr (.inr (.inl ⟨v, ?_,h1⟩)))
  rw [← hc]
  exact (World.cell?_of_block (e sb (by omega))).symm
 ·by_cases hk2 : k=l
  ·rw [hk2]; exact .inr (.inr (.inr (.inr ⟨o,hl,ho⟩)))
  ·exact .inr (.inr (.inr (.inr ⟨q,(e k hk2).symm.trans hq,h1⟩)))
end
theorem bo_start {pb sb B : Nat} {d u : List TV} {e : List (SV × SV)} {W : World} (h : SPI pb sb B d u e (.slice none 0 0) (.slice none 0 0) (.slice none 0 0) W) {b : Nat} {v : Value} {vs : List Value} (hb : Bk W b (v :: vs)) (h1 : b≠pb) (h2 : b≠sb) : Bo (XS pb sb) W b (v :: vs):=by
 refine ⟨hb,fun hX=>?_⟩
 rcases h.cases hX with h3 | h3 | h3 | h3 | h3 | ⟨o,ho,hn⟩
 ·exact h1 h3
 ·exact h2 h3
 ·simp [Value.ownBlock] at h3
 ·simp [Value.ownBlock] at h3
 ·simp [Value.ownBlock] at h3
 ·rw [hb.cells ho] at hn
  cases hn
def pcG : Pc→Value
 | .inl (t,f)=>.agg #[.string (rtx t.a.x),.string (rtx t.a.y),.string (rtx t.a.z),.string (rtx t.b.x),.string (rtx t.b.y),.string (rtx t.b.z),.string (rtx t.c.x),.string (rtx t.c.y),.string (rtx t.c.z),.bool f]
 | .inr _=>undef
theorem len_PcD (l : List Pc) : (l.flatMap PcD).length≤l.length:=by
 induction l with
 | nil=>simp
 | cons x l ih =>
  rw [List.flatMap_cons,List.length_append,List.length_cons]
  have : (PcD x).length≤1:=by
   unfold PcD
   split<;>simp
  omega
theorem len_PcU (l : List Pc) : (l.flatMap PcU).length≤l.length:=by
 induction l with
 | nil=>simp
 | cons x l ih =>
  rw [List.flatMap_cons,List.length_append,List.length_cons]
  have : (PcU x).length≤1:=by
   unfold PcU
   split<;>simp
  omega
theorem len_PcS (l : List Pc) : (l.flatMap PcS).length≤l.length:=by
 induction l with
 | nil=>simp
 | cons x l ih =>
  rw [List.flatMap_cons,List.length_append,List.length_cons]
  have : (PcS x).length≤1:=by
   unfold PcS
   split<;>simp
  omega
theorem bk_heap {W : World} {q : Nat} {cs : Array Value} {T : TypeId} (h : W.heap[q]?=some (.cells cs T (0,0))) : Bk W q cs.toList :=
 ⟨(Array.getElem?_eq_some_iff.1 h).1,fun i v hv=>by rw [cell_of_row W q i cs T (0,0) h]; simpa using hv,fun i=>by simp [World.frozen?,h]⟩
def PcB (x : Pc) (q : Nat) (W : World) : Prop:=match x with
 | .inl (t,f)=>W.heap[q]?=some (.cells #[.string (rtx t.a.x),.string (rtx t.a.y),.string (rtx t.a.z),.string (rtx t.b.x),.string (rtx t.b.y),.string (rtx t.b.z),.string (rtx t.c.x),.string (rtx t.c.y),.string (rtx t.c.z),.bool f] 144 (0,0))
 | .inr _=>False
theorem PcB.grown {x : Pc} {q : Nat} {W W' : World} {row : Option Nat} (h : PcB x q W) (g : W.grownBy W' row) (hr : ∀ r,row=some r→∃ o : Obj,W.heap[r]?=some o∧o.isCells=false) : PcB x q W':=by
 cases x with
 | inr=>exact h
 | inl p =>
  obtain ⟨t,f⟩:=p
  refine (g.block q (Array.getElem?_eq_some_iff.1 h).1 (fun e=>?_)).trans h
  obtain ⟨o,ho,hn⟩:=hr q e.symm
  have h2 : W.heap[q]?=some _:=h
  rw [h2] at ho
  cases ho
  cases hn
theorem two_bel {w W W' : World} {cb : Nat} {v : Value} (h : Below w.heap.size w W) (g : Two cb v W W') (h1 : w.heap.size≤cb) (h2 : ∀ k,v.ownBlock=some k→w.heap.size≤k) : Below w.heap.size w W' :=
 h.trans ⟨g.os,g.tape,g.output,g.size,fun k hk=>g.block k (Nat.lt_of_lt_of_le hk h.size) (fun e=>by
  rcases e with e | e
  ·omega
  ·have:=h2 k e
   omega)⟩
theorem wpIn_act {F : Fence} {n : Nat} {P : Program} {c : Code} {Q : Exit→Act→World→Prop} {a a' : Act} {w : World} (e : a=a') (h : c.wpIn F n P Q a' w) : c.wpIn F n P Q a w:=e ▸ h
def SpR (p : Pl) (L : List (Tr V3)) (w : World) (e : Ending) (w' : World) : Prop:=∃ v0 v1 v2,e=.returned (.tuple #[v0,v1,v2]) ∧
 w'.ownsRow w.heap.size 36 9 v0 (dnL p L).length (tcs ((dnL p L).map txt))∧w'.ownsRow w.heap.size 36 9 v1 (upL p L).length (tcs ((upL p L).map txt)) ∧
 w'.ownsRow w.heap.size 54 6 v2 (seL p L).length (sgs ((seL p L).map txe))∧Below w.heap.size w w'
set_option maxRecDepth 100000 in
set_option maxHeartbeats 4000000 in
theorem csplit_walk (L : List (Tr V3)) (p : Pl) (h0 : p.n≠V3.zero) (hp : p.le 100000) (hL : ∀ t ∈ L,t.a.le 100000∧t.b.le 100000∧t.c.le 100000) (hm : L.length≤100000) (A : Option Addr) (cap : Nat) (w : World) (hB : Bw w) (hv : Ts w (.slice A L.length cap) (L.map txt)) :
  Calls Tryz.prog 47 #[.slice A L.length cap,.agg #[.string (rtx p.n.x),.string (rtx p.n.y),.string (rtx p.n.z),.string (rtx p.c)]] w (SpR p L w):=by
 obtain ⟨n,hn0⟩ : ∃ n,n=L.length:=⟨_,rfl⟩
 have HS:=Lib.hid (fun B lr J W m hm hJ hJC hY hE k1 k2 k3 hj=>pieces1_walk L p h0 hp hL lr (w.heap.size+1+1) (w.heap.size+1+1+1) (w.heap.size+1+1+1+1) (w.heap.size+1+1+1+1+1) A cap m hm (L.length * 4) (Nat.le_refl _) (by omega) w hB hv (XS (w.heap.size+1) (w.heap.size+1+1)) (fun W'=>∃ xs,SplI w (w.heap.size+1) (w.heap.size+1+1) B (w.heap.size+1+1+1) (w.heap.size+1+1+1+1) (w.heap.size+1+1+1+1+1) (.slice A L.length cap) (.string (rtx p.n.x)) (.func (.func 84) #[] #[.pointer (some ⟨w.heap.size+1+1,0,none⟩)]) [.string (rtx p.n.y),.string (rtx p.n.z),.string (rtx p.c)] xs W') (fun W' h=>by obtain ⟨xs,_,_,_,_,h,_⟩:=h; exact h) SplI.law (fun _ _ _ h1 h2=>.inr (.inr (.inr (.inr ⟨_,h1,h2⟩)))) J hJ hJC hY hE W k1 k2 k3 hj)
 clear hv h0 hp hL
 rw [← hn0] at HS hm ⊢
 have HN:=Lib.hid hn0
 clear hn0
 refine (callsIn_wide (n:=6)).1 ?_
 refine callsIn_of_wp_marks Tryz.func47 rfl trivial ?_ rfl
 simp only [Tryz.ntmps47,List.size_toArray,List.length_cons,List.length_nil,Nat.reduceAdd,Nat.reduceSub,Array.replicate_succ,Array.replicate_zero,List.push_toArray,List.append_toArray,List.nil_append,List.cons_append]
 generalize rtx p.n.x=x1 at *
 generalize rtx p.n.y=x2 at *
 generalize rtx p.n.z=x3 at *
 generalize rtx p.c=x4 at *
 gi_wp2_with fail
 refine ⟨trivial, ?_⟩
 refine (callsIn_wide.2 (pieces_walk A n cap _ _ _ _ _ _)).mono ?_
 rintro e wP ⟨rfl,hP⟩
 have KP : Bk wP (w.heap.size+1) [.slice none 0 0,.slice none 0 0]:=Bk.below bkk hP.bel
 have KS : Bk wP (w.heap.size+1+1) [.slice none 0 0]:=Bk.below bkk hP.bel
 have HP:=Lib.hid hP
 have BP : Below w.heap.size w wP:=bn bel hP.bel
 clear hP
 gi_wp2_with fail
 obtain ⟨HK1,HK2,HK3, -⟩:=HP.out
 simp only [World.size_alloc] at HK1 HK2 HK3
 have hz1:=KP.lt
 have hz2:=HK3.lt
 have hSP : SPI (w.heap.size+1) (w.heap.size+1+1) wP.heap.size [] [] [] (.slice none 0 0) (.slice none 0 0) (.slice none 0 0) wP :=
  ⟨KP,KS,World.ownsRow_nil _ _ _ _,World.ownsRow_nil _ _ _ _,World.ownsRow_nil _ _ _ _,fun k hk=>by simp [Value.ownBlock] at hk,by omega,by omega,by omega,Nat.le_refl _⟩
 have hI0 : SplI w (w.heap.size+1) (w.heap.size+1+1) wP.heap.size (w.heap.size+1+1+1) (w.heap.size+1+1+1+1) (w.heap.size+1+1+1+1+1) (.slice A n cap) (.string x1) (.func (.func 84) #[] #[.pointer (some ⟨w.heap.size+1+1,0,none⟩)]) [.string x2,.string x3,.string x4] [] wP :=
  ⟨_,_,_,hSP,BP,bo_start hSP HK1 (by omega) (by omega),bo_start hSP HK2 (by omega) (by omega),bo_start hSP HK3 (by omega) (by omega)⟩
 have hwP:=BP.size
 clear HP HK1 HK2 HK3 hSP KP KS
 have HM:=Lib.hid hm
 clear hm
 refine range_two (F:=Fence.wide) (n:=6) rfl (by omega) (gf:=129) (lb:=#[.pointer (some ⟨w.heap.size+1+1+1,0,none⟩),.pointer (some ⟨w.heap.size+1+1+1+1,0,none⟩),.pointer (some ⟨w.heap.size+1+1+1+1+1,0,none⟩)]) rfl trivial (enters_of Tryz.func129 (by kernel_rfl) rfl)
  (isY:=pcY) (encs:=pcV) (ef:=84) (ea:=pcE (w.heap.size+1+1)) (C:=fun W'=>∃ xs,SplI w (w.heap.size+1) (w.heap.size+1+1) wP.heap.size (w.heap.size+1+1+1) (w.heap.size+1+1+1+1) (w.heap.size+1+1+1+1+1) (.slice A n cap) (.string x1) (.func (.func 84) #[] #[.pointer (some ⟨w.heap.size+1+1,0,none⟩)]) [.string x2,.string x3,.string x4] xs W') (Kp:=Kx (XS (w.heap.size+1) (w.heap.size+1+1))) (S:=fun xs=>xs=L.flatMap (pcs p)) (N:=n * 4) (w0:=w)
  ?seq Kx.trans (fun W l o o' h1 h2 h3=>SplI.put (by omega) (by omega) h2 h3) BP (fun x hx=>by cases x<;>first | rfl | cases hx)
  (SplI w (w.heap.size+1) (w.heap.size+1+1) wP.heap.size (w.heap.size+1+1+1) (w.heap.size+1+1+1+1) (w.heap.size+1+1+1+1+1) (.slice A n cap) (.string x1) (.func (.func 84) #[] #[.pointer (some ⟨w.heap.size+1+1,0,none⟩)]) [.string x2,.string x3,.string x4]) (SplI.own hwP) (fun xs W h=>⟨xs,h⟩) hI0
  (fun x a' W=>∃ q,a'={ tmps:=#[.slice A n cap,.agg #[.string x1,.string x2,.string x3,.string x4],undef,.pointer (some ⟨w.heap.size,0,none⟩),.slice none 0 0,.slice none 0 0,.slice none 0 0,.pointer (some ⟨w.heap.size+1,0,none⟩),.pointer (some ⟨w.heap.size+1+1,0,none⟩),.pointer (some ⟨q,0,none⟩),undef,.slice A n cap,.agg #[.string x1,.string x2,.string x3,.string x4],.func (.func 84) #[] #[.pointer (some ⟨w.heap.size+1+1,0,none⟩)],.func (.func 129) #[] #[.pointer (some ⟨w.heap.size+1+1+1,0,none⟩),.pointer (some ⟨w.heap.size+1+1+1+1,0,none⟩),.pointer (some ⟨w.heap.size+1+1+1+1+1,0,none⟩)],pcG x,undef,undef,undef,undef,undef,undef,undef,undef,undef,undef,undef,undef,undef,undef,undef,undef],defers:=[] }∧PcB x q W) ?ax ?assign ?body ?edge ?done
 case seq =>
  intro l J W hW hJ hJC hY hE hj
  obtain ⟨xs,v0,v1,v2,hsp,hbw,k1,k2,k3⟩:=hJC _ _ hj
  refine (HS.out wP.heap.size l J W 5 (by omega) hJ hJC hY hE k1 k2 k3 hj).mono ?_
  rintro e W' ⟨hv,hj'⟩
  exact ⟨hv,_,rfl,hj'⟩
 case ax =>
  rintro x a' u W W' row ⟨q,h1,h2⟩ g hr
  exact ⟨q,h1,h2.grown g (fun r e=>(hr r e).2)⟩
 case assign =>
  intro l pre x W K hx hI hK
  obtain ⟨⟨t,f⟩⟩ | z:=x
  ·have hK2:=Lib.hid hK
   clear hK
   refine wpIn_act (a':={ tmps:=#[.slice A n cap,.agg #[.string x1,.string x2,.string x3,.string x4],undef,.pointer (some ⟨w.heap.size,0,none⟩),.slice none 0 0,.slice none 0 0,.slice none 0 0,.pointer (some ⟨w.heap.size+1,0,none⟩),.pointer (some ⟨w.heap.size+1+1,0,none⟩),undef,undef,.slice A n cap,.agg #[.string x1,.string x2,.string x3,.string x4],.func (.func 84) #[] #[.pointer (some ⟨w.heap.size+1+1,0,none⟩)],.func (.func 129) #[] #[.pointer (some ⟨w.heap.size+1+1+1,0,none⟩),.pointer (some ⟨w.heap.size+1+1+1+1,0,none⟩),.pointer (some ⟨w.heap.size+1+1+1+1+1,0,none⟩)],(pcG (Sum.inl (t,f))),undef,undef,undef,undef,undef,undef,undef,undef,undef,undef,undef,undef,undef,undef,undef,undef],defers:=[] }) (by simp [pcV,pcG]) ?_
   dsimp only [pcG]
   gi_wp2
   have hc : ∃ xs,SplI w (w.heap.size+1) (w.heap.size+1+1) wP.heap.size (w.heap.size+1+1+1) (w.heap.size+1+1+1+1) (w.heap.size+1+1+1+1+1) (.slice A n cap) (.string x1) (.func (.func 84) #[] #[.pointer (some ⟨w.heap.size+1+1,0,none⟩)]) [.string x2,.string x3,.string x4] xs W:=⟨_,hI⟩
   refine hK2.out _ _ ((KeepsOthers.alloc _ _).from _) (Kx.below SplI.law (fun _ _ _ h1 h2=>.inr (.inr (.inr (.inr ⟨_,h1,h2⟩)))) hc (ba (br _))) ((SplI.own hwP).alloc _ hI) ⟨W.heap.size,rfl,heap_new _ _⟩
  ·cases hx
 case body =>
  rintro l pre x a' W hx ⟨v0,v1,v2,hsp,hbw,k1,k2,k3⟩ ⟨q,rfl,hq⟩ hlen
  obtain ⟨⟨t,f⟩⟩ | z:=x
  ·dsimp only [pcG]
   cases f
   ·skip
    have hbk : Bk W q [.string (rtx t.a.x),.string (rtx t.a.y),.string (rtx t.a.z),.string (rtx t.b.x),.string (rtx t.b.y),.string (rtx t.b.z),.string (rtx t.c.x),.string (rtx t.c.y),.string (rtx t.c.z),.bool false]:=bk_heap hq
    obtain ⟨A0,cap0,rfl⟩:=own_sl hsp.r0
    obtain ⟨A1,cap1,rfl⟩:=own_sl hsp.r1
    have c9:=hbk.cell 9 _ rfl
    have hql:=hbk.lt
    have hpl:=hsp.kp.lt
    have cp:=hsp.kp.cell 0 _ rfl
    have cq0:=hbk.cell 0 _ rfl
    have cq1:=hbk.cell 1 _ rfl
    have cq2:=hbk.cell 2 _ rfl
    have cq3:=hbk.cell 3 _ rfl
    have cq4:=hbk.cell 4 _ rfl
    have cq5:=hbk.cell 5 _ rfl
    have cq6:=hbk.cell 6 _ rfl
    have cq7:=hbk.cell 7 _ rfl
    have cq8:=hbk.cell 8 _ rfl
    have HSP:=Lib.hid hsp
    have HBW:=Lib.hid hbw
    have HK1:=Lib.hid k1
    have HK2:=Lib.hid k2
    have HK3:=Lib.hid k3
    have HLN : Hid ((pre.flatMap PcD).length≤400000):=Lib.hid (by have h1:=len_PcD pre; have:=HM.out; omega)
    obtain ⟨nn,hnn⟩ : ∃ x,x=(pre.flatMap PcD).length:=⟨_,rfl⟩
    rw [← hnn] at cp
    have HNN:=Lib.hid hnn
    clear hsp hbw k1 k2 k3 hbk hq hnn
    gi_wp2_with fail
    refine round_region_any (by kernel_rfl) (by kernel_rfl) (lets_block (by rintro ⟨_,_,h,_⟩; cases h)) ?_
    refine wpAny_take (i:=0) (v:=.int .i64 0) rfl (by kernel_rfl) (by kernel_rfl) (by kernel_rfl) (fun _ _ _ h=>h) (Or.inl ⟨rfl,fun w'=>?_⟩) ?_
    ·go_simp
    try simp only [Act.put,lsx]
    refine wpAny_take (i:=1) (v:=.int .i64 0) rfl (by kernel_rfl) (by kernel_rfl) (by kernel_rfl) (fun _ _ _ h=>h) (Or.inl ⟨rfl,fun w'=>?_⟩) ?_
    ·go_simp
    try simp only [Act.put,lsx]
    refine wpAny_take (i:=2) (v:=.pointer (some ⟨w.heap.size+1,0,none⟩)) rfl (by kernel_rfl) (by kernel_rfl) (by kernel_rfl) (fun _ _ _ h=>h) (Or.inl ⟨rfl,fun w'=>?_⟩) ?_
    ·go_simp
    try simp only [Act.put,lsx]
    refine wpAny_take (i:=4) (v:=.pointer (some ⟨q,0,none⟩)) rfl (by kernel_rfl) (by kernel_rfl) (by kernel_rfl) (fun _ _ _ h=>h) (Or.inl ⟨rfl,fun w'=>?_⟩) ?_
    ·go_simp
    try simp only [Act.put,lsx]
    refine wpAny_ready (rs:=[3,5]) (by kernel_rfl) (by simp) ?_
    refine (AllReady.cons rfl (fun K hK=>?_) (AllReady.cons rfl (fun K hK=>?_) AllReady.nil))
    ·skip
     rw [if_pos (by rfl)]
     go_simp
     refine hK _ _ ?_
     clear hK K
     try simp only [Act.put,lsx]
     refine wpAny_ready (rs:=[5]) (by kernel_rfl) (by simp) ?_
     refine (AllReady.cons rfl (fun K hK=>?_) AllReady.nil)
     rw [if_pos (by rfl)]
     go_simp
     refine hK _ _ ?_
     clear hK K
     try simp only [Act.put,lsx]
     refine wpAny_ready (rs:=[6]) (by kernel_rfl) (by simp) ?_
     refine (AllReady.cons rfl (fun K hK=>?_) AllReady.nil)
     rw [if_pos (by rfl)]
     go_simp
     refine hK _ _ ?_
     clear hK K
     try simp only [Act.put,lsx]
     refine wpAny_ready (rs:=[7]) (by kernel_rfl) (by simp) ?_
     refine (AllReady.cons rfl (fun K hK=>?_) AllReady.nil)
     refine step_append_row (X:=(W.drew.alloc (.cells #[.string (rtx t.a.x),.string (rtx t.a.y),.string (rtx t.a.z),.string (rtx t.b.x),.string (rtx t.b.y),.string (rtx t.b.z),.string (rtx t.c.x),.string (rtx t.c.y),.string (rtx t.c.z)] 36))) wP.heap.size (by rfl) (.tmp 21) (.tmp 24) 23 36 _ 9 144 (by rfl) Tryz.underlying23 info_tri rfl (by omega) (by omega) (.slice A0 nn cap0) nn 1 (tcs (pre.flatMap PcD)) [.string (rtx t.a.x),.string (rtx t.a.y),.string (rtx t.a.z),.string (rtx t.b.x),.string (rtx t.b.y),.string (rtx t.b.z),.string (rtx t.c.x),.string (rtx t.c.y),.string (rtx t.c.z)] (by rfl) W.heap.size (by rfl) (by omega) rfl (by simp [Value.oneCell']) (by rw [HNN.out]; exact own_below HSP.out.r0 (ba (bd (br _)))) (heap_new _ _) (Nat.le_trans HSP.out.hB (by simp)) (by have:=HLN.out; have:=HNN.out; omega) ?_
     intro v' w1 hown hg hat
     obtain ⟨A',cap',rfl⟩:=own_sl hown
     have KPB : Bk w1 (w.heap.size+1) _:=bk_two HSP.out.kp (ba (bd (br _))) hg (fun k e=>by have:=own_base_le HSP.out.r0 k (by rw [← HNN.out]; exact e); have:=HSP.out.pB; omega)
     have d0:=KPB.cell 0 _ rfl
     have f0:=KPB.free 0
     have hl1:=KPB.lt
     have TWO : Two (w.heap.size+1) _ W (w1.setCell ⟨w.heap.size+1,0,none⟩ (.slice A' (nn+1) cap')):=two_edge (ba (bd (br _))) hg 0 _
     have OWN:=own_put hown (p:=⟨w.heap.size+1,0,none⟩) HSP.out.pB (.slice A' (nn+1) cap')
     have KB2:=KPB.set 0 (by simp) (.slice A' (nn+1) cap')
     have HALL:=Lib.hid (And.intro TWO (And.intro OWN (And.intro KB2 hat)))
     refine hK _ _ ?_
     clear hK K hown hg hat KPB TWO OWN KB2
     try simp only [Act.put,lsx]
     refine wpAny_take (i:=8) (v:=.pointer (some ⟨w.heap.size+1,0,none⟩)) rfl (by kernel_rfl) (by kernel_rfl) (by kernel_rfl) (fun _ _ _ h=>h) (Or.inl ⟨rfl,fun w'=>?_⟩) ?_
     ·go_simp
     try simp only [Act.put,lsx]
     refine wpAny_ready (rs:=[9]) (by kernel_rfl) (by simp) ?_
     refine (AllReady.cons rfl (fun K hK=>?_) AllReady.nil)
     rw [if_pos (by rfl)]
     go_simp
     refine hK _ _ ?_
     clear hK K
     try simp only [Act.put,lsx]
     refine wpAny_done (by kernel_rfl) ?_ _
     gi_wp2
     obtain ⟨htwo,hown,hkb,hat⟩:=HALL.out
     obtain ⟨h1,h2,h3⟩:=HSP.out.down (d':=pre.flatMap PcD++[txt t]) (by rw [← HNN.out]; exact htwo) hkb (by rw [List.length_append,← HNN.out,tcs_append]; exact hown) (by rw [← HNN.out]; exact hat.imp id (fun h=>⟨_,h,by simp⟩))
     have e1 : (pre++[Sum.inl (t,false)]).flatMap PcD=pre.flatMap PcD++[txt t]:=by simp [PcD]
     have e2 : (pre++[Sum.inl (t,false)]).flatMap PcU=pre.flatMap PcU:=by simp [PcU]
     have e3 : (pre++[Sum.inl (t,false)]).flatMap PcS=pre.flatMap PcS:=by simp [PcS]
     rw [← e1,← e2,← e3] at h1
     exact ⟨h3,h2,_,_,_,h1,two_bel HBW.out htwo (by omega) (fun k hk=>by have:=own_base_le HSP.out.r0 k (by rw [← HNN.out]; exact hk); omega),HK1.out.kx h2,HK2.out.kx h2,HK3.out.kx h2⟩
    ·skip
     rw [if_pos (by rfl)]
     go_simp
     refine hK _ _ ?_
     clear hK K
     try simp only [Act.put,lsx]
     refine wpAny_ready (rs:=[3,6]) (by kernel_rfl) (by simp) ?_
     refine (AllReady.cons rfl (fun K hK=>?_) (AllReady.cons rfl (fun K hK=>?_) AllReady.nil))
     ·skip
      rw [if_pos (by rfl)]
      go_simp
      refine hK _ _ ?_
      clear hK K
      try simp only [Act.put,lsx]
      refine wpAny_ready (rs:=[6]) (by kernel_rfl) (by simp) ?_
      refine (AllReady.cons rfl (fun K hK=>?_) AllReady.nil)
      rw [if_pos (by rfl)]
      go_simp
      refine hK _ _ ?_
      clear hK K
      try simp only [Act.put,lsx]
      refine wpAny_ready (rs:=[7]) (by kernel_rfl) (by simp) ?_
      refine (AllReady.cons rfl (fun K hK=>?_) AllReady.nil)
      refine step_append_row (X:=(W.drew.alloc (.cells #[.string (rtx t.a.x),.string (rtx t.a.y),.string (rtx t.a.z),.string (rtx t.b.x),.string (rtx t.b.y),.string (rtx t.b.z),.string (rtx t.c.x),.string (rtx t.c.y),.string (rtx t.c.z)] 36))) wP.heap.size (by rfl) (.tmp 21) (.tmp 24) 23 36 _ 9 144 (by rfl) Tryz.underlying23 info_tri rfl (by omega) (by omega) (.slice A0 nn cap0) nn 1 (tcs (pre.flatMap PcD)) [.string (rtx t.a.x),.string (rtx t.a.y),.string (rtx t.a.z),.string (rtx t.b.x),.string (rtx t.b.y),.string (rtx t.b.z),.string (rtx t.c.x),.string (rtx t.c.y),.string (rtx t.c.z)] (by rfl) W.heap.size (by rfl) (by omega) rfl (by simp [Value.oneCell']) (by rw [HNN.out]; exact own_below HSP.out.r0 (ba (bd (br _)))) (heap_new _ _) (Nat.le_trans HSP.out.hB (by simp)) (by have:=HLN.out; have:=HNN.out; omega) ?_
      intro v' w1 hown hg hat
      obtain ⟨A',cap',rfl⟩:=own_sl hown
      have KPB : Bk w1 (w.heap.size+1) _:=bk_two HSP.out.kp (ba (bd (br _))) hg (fun k e=>by have:=own_base_le HSP.out.r0 k (by rw [← HNN.out]; exact e); have:=HSP.out.pB; omega)
      have d0:=KPB.cell 0 _ rfl
      have f0:=KPB.free 0
      have hl1:=KPB.lt
      have TWO : Two (w.heap.size+1) _ W (w1.setCell ⟨w.heap.size+1,0,none⟩ (.slice A' (nn+1) cap')):=two_edge (ba (bd (br _))) hg 0 _
      have OWN:=own_put hown (p:=⟨w.heap.size+1,0,none⟩) HSP.out.pB (.slice A' (nn+1) cap')
      have KB2:=KPB.set 0 (by simp) (.slice A' (nn+1) cap')
      have HALL:=Lib.hid (And.intro TWO (And.intro OWN (And.intro KB2 hat)))
      refine hK _ _ ?_
      clear hK K hown hg hat KPB TWO OWN KB2
      try simp only [Act.put,lsx]
      refine wpAny_take (i:=8) (v:=.pointer (some ⟨w.heap.size+1,0,none⟩)) rfl (by kernel_rfl) (by kernel_rfl) (by kernel_rfl) (fun _ _ _ h=>h) (Or.inl ⟨rfl,fun w'=>?_⟩) ?_
      ·go_simp
      try simp only [Act.put,lsx]
      refine wpAny_ready (rs:=[9]) (by kernel_rfl) (by simp) ?_
      refine (AllReady.cons rfl (fun K hK=>?_) AllReady.nil)
      rw [if_pos (by rfl)]
      go_simp
      refine hK _ _ ?_
      clear hK K
      try simp only [Act.put,lsx]
      refine wpAny_done (by kernel_rfl) ?_ _
      gi_wp2
      obtain ⟨htwo,hown,hkb,hat⟩:=HALL.out
      obtain ⟨h1,h2,h3⟩:=HSP.out.down (d':=pre.flatMap PcD++[txt t]) (by rw [← HNN.out]; exact htwo) hkb (by rw [List.length_append,← HNN.out,tcs_append]; exact hown) (by rw [← HNN.out]; exact hat.imp id (fun h=>⟨_,h,by simp⟩))
      have e1 : (pre++[Sum.inl (t,false)]).flatMap PcD=pre.flatMap PcD++[txt t]:=by simp [PcD]
      have e2 : (pre++[Sum.inl (t,false)]).flatMap PcU=pre.flatMap PcU:=by simp [PcU]
      have e3 : (pre++[Sum.inl (t,false)]).flatMap PcS=pre.flatMap PcS:=by simp [PcS]
      rw [← e1,← e2,← e3] at h1
      exact ⟨h3,h2,_,_,_,h1,two_bel HBW.out htwo (by omega) (fun k hk=>by have:=own_base_le HSP.out.r0 k (by rw [← HNN.out]; exact hk); omega),HK1.out.kx h2,HK2.out.kx h2,HK3.out.kx h2⟩
     ·skip
      rw [if_pos (by rfl)]
      go_simp
      refine hK _ _ ?_
      clear hK K
      try simp only [Act.put,lsx]
      refine wpAny_ready (rs:=[3]) (by kernel_rfl) (by simp) ?_
      refine (AllReady.cons rfl (fun K hK=>?_) AllReady.nil)
      rw [if_pos (by rfl)]
      go_simp
      refine hK _ _ ?_
      clear hK K
      try simp only [Act.put,lsx]
      refine wpAny_ready (rs:=[7]) (by kernel_rfl) (by simp) ?_
      refine (AllReady.cons rfl (fun K hK=>?_) AllReady.nil)
      refine step_append_row (X:=(W.drew.alloc (.cells #[.string (rtx t.a.x),.string (rtx t.a.y),.string (rtx t.a.z),.string (rtx t.b.x),.string (rtx t.b.y),.string (rtx t.b.z),.string (rtx t.c.x),.string (rtx t.c.y),.string (rtx t.c.z)] 36))) wP.heap.size (by rfl) (.tmp 21) (.tmp 24) 23 36 _ 9 144 (by rfl) Tryz.underlying23 info_tri rfl (by omega) (by omega) (.slice A0 nn cap0) nn 1 (tcs (pre.flatMap PcD)) [.string (rtx t.a.x),.string (rtx t.a.y),.string (rtx t.a.z),.string (rtx t.b.x),.string (rtx t.b.y),.string (rtx t.b.z),.string (rtx t.c.x),.string (rtx t.c.y),.string (rtx t.c.z)] (by rfl) W.heap.size (by rfl) (by omega) rfl (by simp [Value.oneCell']) (by rw [HNN.out]; exact own_below HSP.out.r0 (ba (bd (br _)))) (heap_new _ _) (Nat.le_trans HSP.out.hB (by simp)) (by have:=HLN.out; have:=HNN.out; omega) ?_
      intro v' w1 hown hg hat
      obtain ⟨A',cap',rfl⟩:=own_sl hown
      have KPB : Bk w1 (w.heap.size+1) _:=bk_two HSP.out.kp (ba (bd (br _))) hg (fun k e=>by have:=own_base_le HSP.out.r0 k (by rw [← HNN.out]; exact e); have:=HSP.out.pB; omega)
      have d0:=KPB.cell 0 _ rfl
      have f0:=KPB.free 0
      have hl1:=KPB.lt
      have TWO : Two (w.heap.size+1) _ W (w1.setCell ⟨w.heap.size+1,0,none⟩ (.slice A' (nn+1) cap')):=two_edge (ba (bd (br _))) hg 0 _
      have OWN:=own_put hown (p:=⟨w.heap.size+1,0,none⟩) HSP.out.pB (.slice A' (nn+1) cap')
      have KB2:=KPB.set 0 (by simp) (.slice A' (nn+1) cap')
      have HALL:=Lib.hid (And.intro TWO (And.intro OWN (And.intro KB2 hat)))
      refine hK _ _ ?_
      clear hK K hown hg hat KPB TWO OWN KB2
      try simp only [Act.put,lsx]
      refine wpAny_take (i:=8) (v:=.pointer (some ⟨w.heap.size+1,0,none⟩)) rfl (by kernel_rfl) (by kernel_rfl) (by kernel_rfl) (fun _ _ _ h=>h) (Or.inl ⟨rfl,fun w'=>?_⟩) ?_
      ·go_simp
      try simp only [Act.put,lsx]
      refine wpAny_ready (rs:=[9]) (by kernel_rfl) (by simp) ?_
      refine (AllReady.cons rfl (fun K hK=>?_) AllReady.nil)
      rw [if_pos (by rfl)]
      go_simp
      refine hK _ _ ?_
      clear hK K
      try simp only [Act.put,lsx]
      refine wpAny_done (by kernel_rfl) ?_ _
      gi_wp2
      obtain ⟨htwo,hown,hkb,hat⟩:=HALL.out
      obtain ⟨h1,h2,h3⟩:=HSP.out.down (d':=pre.flatMap PcD++[txt t]) (by rw [← HNN.out]; exact htwo) hkb (by rw [List.length_append,← HNN.out,tcs_append]; exact hown) (by rw [← HNN.out]; exact hat.imp id (fun h=>⟨_,h,by simp⟩))
      have e1 : (pre++[Sum.inl (t,false)]).flatMap PcD=pre.flatMap PcD++[txt t]:=by simp [PcD]
      have e2 : (pre++[Sum.inl (t,false)]).flatMap PcU=pre.flatMap PcU:=by simp [PcU]
      have e3 : (pre++[Sum.inl (t,false)]).flatMap PcS=pre.flatMap PcS:=by simp [PcS]
      rw [← e1,← e2,← e3] at h1
      exact ⟨h3,h2,_,_,_,h1,two_bel HBW.out htwo (by omega) (fun k hk=>by have:=own_base_le HSP.out.r0 k (by rw [← HNN.out]; exact hk); omega),HK1.out.kx h2,HK2.out.kx h2,HK3.out.kx h2⟩
   ·skip
    have hbk : Bk W q [.string (rtx t.a.x),.string (rtx t.a.y),.string (rtx t.a.z),.string (rtx t.b.x),.string (rtx t.b.y),.string (rtx t.b.z),.string (rtx t.c.x),.string (rtx t.c.y),.string (rtx t.c.z),.bool true]:=bk_heap hq
    obtain ⟨A0,cap0,rfl⟩:=own_sl hsp.r0
    obtain ⟨A1,cap1,rfl⟩:=own_sl hsp.r1
    have c9:=hbk.cell 9 _ rfl
    have hql:=hbk.lt
    have hpl:=hsp.kp.lt
    have cp:=hsp.kp.cell 1 _ rfl
    have cq0:=hbk.cell 0 _ rfl
    have cq1:=hbk.cell 1 _ rfl
    have cq2:=hbk.cell 2 _ rfl
    have cq3:=hbk.cell 3 _ rfl
    have cq4:=hbk.cell 4 _ rfl
    have cq5:=hbk.cell 5 _ rfl
    have cq6:=hbk.cell 6 _ rfl
    have cq7:=hbk.cell 7 _ rfl
    have cq8:=hbk.cell 8 _ rfl
    have HSP:=Lib.hid hsp
    have HBW:=Lib.hid hbw
    have HK1:=Lib.hid k1
    have HK2:=Lib.hid k2
    have HK3:=Lib.hid k3
    have HLN : Hid ((pre.flatMap PcU).length≤400000):=Lib.hid (by have h1:=len_PcU pre; have:=HM.out; omega)
    obtain ⟨nn,hnn⟩ : ∃ x,x=(pre.flatMap PcU).length:=⟨_,rfl⟩
    rw [← hnn] at cp
    have HNN:=Lib.hid hnn
    clear hsp hbw k1 k2 k3 hbk hq hnn
    gi_wp2_with fail
    refine round_region_any (by kernel_rfl) (by kernel_rfl) (lets_block (by rintro ⟨_,_,h,_⟩; cases h)) ?_
    refine wpAny_take (i:=0) (v:=.int .i64 1) rfl (by kernel_rfl) (by kernel_rfl) (by kernel_rfl) (fun _ _ _ h=>h) (Or.inl ⟨rfl,fun w'=>?_⟩) ?_
    ·go_simp
    try simp only [Act.put,lsx]
    refine wpAny_take (i:=1) (v:=.int .i64 1) rfl (by kernel_rfl) (by kernel_rfl) (by kernel_rfl) (fun _ _ _ h=>h) (Or.inl ⟨rfl,fun w'=>?_⟩) ?_
    ·go_simp
    try simp only [Act.put,lsx]
    refine wpAny_take (i:=2) (v:=.pointer (some ⟨w.heap.size+1,1,none⟩)) rfl (by kernel_rfl) (by kernel_rfl) (by kernel_rfl) (fun _ _ _ h=>h) (Or.inl ⟨rfl,fun w'=>?_⟩) ?_
    ·go_simp
    try simp only [Act.put,lsx]
    refine wpAny_take (i:=4) (v:=.pointer (some ⟨q,0,none⟩)) rfl (by kernel_rfl) (by kernel_rfl) (by kernel_rfl) (fun _ _ _ h=>h) (Or.inl ⟨rfl,fun w'=>?_⟩) ?_
    ·go_simp
    try simp only [Act.put,lsx]
    refine wpAny_ready (rs:=[3,5]) (by kernel_rfl) (by simp) ?_
    refine (AllReady.cons rfl (fun K hK=>?_) (AllReady.cons rfl (fun K hK=>?_) AllReady.nil))
    ·skip
     rw [if_pos (by rfl)]
     go_simp
     refine hK _ _ ?_
     clear hK K
     try simp only [Act.put,lsx]
     refine wpAny_ready (rs:=[5]) (by kernel_rfl) (by simp) ?_
     refine (AllReady.cons rfl (fun K hK=>?_) AllReady.nil)
     rw [if_pos (by rfl)]
     go_simp
     refine hK _ _ ?_
     clear hK K
     try simp only [Act.put,lsx]
     refine wpAny_ready (rs:=[6]) (by kernel_rfl) (by simp) ?_
     refine (AllReady.cons rfl (fun K hK=>?_) AllReady.nil)
     rw [if_pos (by rfl)]
     go_simp
     refine hK _ _ ?_
     clear hK K
     try simp only [Act.put,lsx]
     refine wpAny_ready (rs:=[7]) (by kernel_rfl) (by simp) ?_
     refine (AllReady.cons rfl (fun K hK=>?_) AllReady.nil)
     refine step_append_row (X:=(W.drew.alloc (.cells #[.string (rtx t.a.x),.string (rtx t.a.y),.string (rtx t.a.z),.string (rtx t.b.x),.string (rtx t.b.y),.string (rtx t.b.z),.string (rtx t.c.x),.string (rtx t.c.y),.string (rtx t.c.z)] 36))) wP.heap.size (by rfl) (.tmp 21) (.tmp 24) 23 36 _ 9 144 (by rfl) Tryz.underlying23 info_tri rfl (by omega) (by omega) (.slice A1 nn cap1) nn 1 (tcs (pre.flatMap PcU)) [.string (rtx t.a.x),.string (rtx t.a.y),.string (rtx t.a.z),.string (rtx t.b.x),.string (rtx t.b.y),.string (rtx t.b.z),.string (rtx t.c.x),.string (rtx t.c.y),.string (rtx t.c.z)] (by rfl) W.heap.size (by rfl) (by omega) rfl (by simp [Value.oneCell']) (by rw [HNN.out]; exact own_below HSP.out.r1 (ba (bd (br _)))) (heap_new _ _) (Nat.le_trans HSP.out.hB (by simp)) (by have:=HLN.out; have:=HNN.out; omega) ?_
     intro v' w1 hown hg hat
     obtain ⟨A',cap',rfl⟩:=own_sl hown
     have KPB : Bk w1 (w.heap.size+1) _:=bk_two HSP.out.kp (ba (bd (br _))) hg (fun k e=>by have:=own_base_le HSP.out.r1 k (by rw [← HNN.out]; exact e); have:=HSP.out.pB; omega)
     have d0:=KPB.cell 1 _ rfl
     have f0:=KPB.free 1
     have hl1:=KPB.lt
     have TWO : Two (w.heap.size+1) _ W (w1.setCell ⟨w.heap.size+1,1,none⟩ (.slice A' (nn+1) cap')):=two_edge (ba (bd (br _))) hg 1 _
     have OWN:=own_put hown (p:=⟨w.heap.size+1,1,none⟩) HSP.out.pB (.slice A' (nn+1) cap')
     have KB2:=KPB.set 1 (by simp) (.slice A' (nn+1) cap')
     have HALL:=Lib.hid (And.intro TWO (And.intro OWN (And.intro KB2 hat)))
     refine hK _ _ ?_
     clear hK K hown hg hat KPB TWO OWN KB2
     try simp only [Act.put,lsx]
     refine wpAny_take (i:=8) (v:=.pointer (some ⟨w.heap.size+1,1,none⟩)) rfl (by kernel_rfl) (by kernel_rfl) (by kernel_rfl) (fun _ _ _ h=>h) (Or.inl ⟨rfl,fun w'=>?_⟩) ?_
     ·go_simp
     try simp only [Act.put,lsx]
     refine wpAny_ready (rs:=[9]) (by kernel_rfl) (by simp) ?_
     refine (AllReady.cons rfl (fun K hK=>?_) AllReady.nil)
     rw [if_pos (by rfl)]
     go_simp
     refine hK _ _ ?_
     clear hK K
     try simp only [Act.put,lsx]
     refine wpAny_done (by kernel_rfl) ?_ _
     gi_wp2
     obtain ⟨htwo,hown,hkb,hat⟩:=HALL.out
     obtain ⟨h1,h2,h3⟩:=HSP.out.up (u':=pre.flatMap PcU++[txt t]) (by rw [← HNN.out]; exact htwo) hkb (by rw [List.length_append,← HNN.out,tcs_append]; exact hown) (by rw [← HNN.out]; exact hat.imp id (fun h=>⟨_,h,by simp⟩))
     have e1 : (pre++[Sum.inl (t,true)]).flatMap PcU=pre.flatMap PcU++[txt t]:=by simp [PcU]
     have e2 : (pre++[Sum.inl (t,true)]).flatMap PcD=pre.flatMap PcD:=by simp [PcD]
     have e3 : (pre++[Sum.inl (t,true)]).flatMap PcS=pre.flatMap PcS:=by simp [PcS]
     rw [← e1,← e2,← e3] at h1
     exact ⟨h3,h2,_,_,_,h1,two_bel HBW.out htwo (by omega) (fun k hk=>by have:=own_base_le HSP.out.r1 k (by rw [← HNN.out]; exact hk); omega),HK1.out.kx h2,HK2.out.kx h2,HK3.out.kx h2⟩
    ·skip
     rw [if_pos (by rfl)]
     go_simp
     refine hK _ _ ?_
     clear hK K
     try simp only [Act.put,lsx]
     refine wpAny_ready (rs:=[3,6]) (by kernel_rfl) (by simp) ?_
     refine (AllReady.cons rfl (fun K hK=>?_) (AllReady.cons rfl (fun K hK=>?_) AllReady.nil))
     ·skip
      rw [if_pos (by rfl)]
      go_simp
      refine hK _ _ ?_
      clear hK K
      try simp only [Act.put,lsx]
      refine wpAny_ready (rs:=[6]) (by kernel_rfl) (by simp) ?_
      refine (AllReady.cons rfl (fun K hK=>?_) AllReady.nil)
      rw [if_pos (by rfl)]
      go_simp
      refine hK _ _ ?_
      clear hK K
      try simp only [Act.put,lsx]
      refine wpAny_ready (rs:=[7]) (by kernel_rfl) (by simp) ?_
      refine (AllReady.cons rfl (fun K hK=>?_) AllReady.nil)
      refine step_append_row (X:=(W.drew.alloc (.cells #[.string (rtx t.a.x),.string (rtx t.a.y),.string (rtx t.a.z),.string (rtx t.b.x),.string (rtx t.b.y),.string (rtx t.b.z),.string (rtx t.c.x),.string (rtx t.c.y),.string (rtx t.c.z)] 36))) wP.heap.size (by rfl) (.tmp 21) (.tmp 24) 23 36 _ 9 144 (by rfl) Tryz.underlying23 info_tri rfl (by omega) (by omega) (.slice A1 nn cap1) nn 1 (tcs (pre.flatMap PcU)) [.string (rtx t.a.x),.string (rtx t.a.y),.string (rtx t.a.z),.string (rtx t.b.x),.string (rtx t.b.y),.string (rtx t.b.z),.string (rtx t.c.x),.string (rtx t.c.y),.string (rtx t.c.z)] (by rfl) W.heap.size (by rfl) (by omega) rfl (by simp [Value.oneCell']) (by rw [HNN.out]; exact own_below HSP.out.r1 (ba (bd (br _)))) (heap_new _ _) (Nat.le_trans HSP.out.hB (by simp)) (by have:=HLN.out; have:=HNN.out; omega) ?_
      intro v' w1 hown hg hat
      obtain ⟨A',cap',rfl⟩:=own_sl hown
      have KPB : Bk w1 (w.heap.size+1) _:=bk_two HSP.out.kp (ba (bd (br _))) hg (fun k e=>by have:=own_base_le HSP.out.r1 k (by rw [← HNN.out]; exact e); have:=HSP.out.pB; omega)
      have d0:=KPB.cell 1 _ rfl
      have f0:=KPB.free 1
      have hl1:=KPB.lt
      have TWO : Two (w.heap.size+1) _ W (w1.setCell ⟨w.heap.size+1,1,none⟩ (.slice A' (nn+1) cap')):=two_edge (ba (bd (br _))) hg 1 _
      have OWN:=own_put hown (p:=⟨w.heap.size+1,1,none⟩) HSP.out.pB (.slice A' (nn+1) cap')
      have KB2:=KPB.set 1 (by simp) (.slice A' (nn+1) cap')
      have HALL:=Lib.hid (And.intro TWO (And.intro OWN (And.intro KB2 hat)))
      refine hK _ _ ?_
      clear hK K hown hg hat KPB TWO OWN KB2
      try simp only [Act.put,lsx]
      refine wpAny_take (i:=8) (v:=.pointer (some ⟨w.heap.size+1,1,none⟩)) rfl (by kernel_rfl) (by kernel_rfl) (by kernel_rfl) (fun _ _ _ h=>h) (Or.inl ⟨rfl,fun w'=>?_⟩) ?_
      ·go_simp
      try simp only [Act.put,lsx]
      refine wpAny_ready (rs:=[9]) (by kernel_rfl) (by simp) ?_
      refine (AllReady.cons rfl (fun K hK=>?_) AllReady.nil)
      rw [if_pos (by rfl)]
      go_simp
      refine hK _ _ ?_
      clear hK K
      try simp only [Act.put,lsx]
      refine wpAny_done (by kernel_rfl) ?_ _
      gi_wp2
      obtain ⟨htwo,hown,hkb,hat⟩:=HALL.out
      obtain ⟨h1,h2,h3⟩:=HSP.out.up (u':=pre.flatMap PcU++[txt t]) (by rw [← HNN.out]; exact htwo) hkb (by rw [List.length_append,← HNN.out,tcs_append]; exact hown) (by rw [← HNN.out]; exact hat.imp id (fun h=>⟨_,h,by simp⟩))
      have e1 : (pre++[Sum.inl (t,true)]).flatMap PcU=pre.flatMap PcU++[txt t]:=by simp [PcU]
      have e2 : (pre++[Sum.inl (t,true)]).flatMap PcD=pre.flatMap PcD:=by simp [PcD]
      have e3 : (pre++[Sum.inl (t,true)]).flatMap PcS=pre.flatMap PcS:=by simp [PcS]
      rw [← e1,← e2,← e3] at h1
      exact ⟨h3,h2,_,_,_,h1,two_bel HBW.out htwo (by omega) (fun k hk=>by have:=own_base_le HSP.out.r1 k (by rw [← HNN.out]; exact hk); omega),HK1.out.kx h2,HK2.out.kx h2,HK3.out.kx h2⟩
     ·skip
      rw [if_pos (by rfl)]
      go_simp
      refine hK _ _ ?_
      clear hK K
      try simp only [Act.put,lsx]
      refine wpAny_ready (rs:=[3]) (by kernel_rfl) (by simp) ?_
      refine (AllReady.cons rfl (fun K hK=>?_) AllReady.nil)
      rw [if_pos (by rfl)]
      go_simp
      refine hK _ _ ?_
      clear hK K
      try simp only [Act.put,lsx]
      refine wpAny_ready (rs:=[7]) (by kernel_rfl) (by simp) ?_
      refine (AllReady.cons rfl (fun K hK=>?_) AllReady.nil)
      refine step_append_row (X:=(W.drew.alloc (.cells #[.string (rtx t.a.x),.string (rtx t.a.y),.string (rtx t.a.z),.string (rtx t.b.x),.string (rtx t.b.y),.string (rtx t.b.z),.string (rtx t.c.x),.string (rtx t.c.y),.string (rtx t.c.z)] 36))) wP.heap.size (by rfl) (.tmp 21) (.tmp 24) 23 36 _ 9 144 (by rfl) Tryz.underlying23 info_tri rfl (by omega) (by omega) (.slice A1 nn cap1) nn 1 (tcs (pre.flatMap PcU)) [.string (rtx t.a.x),.string (rtx t.a.y),.string (rtx t.a.z),.string (rtx t.b.x),.string (rtx t.b.y),.string (rtx t.b.z),.string (rtx t.c.x),.string (rtx t.c.y),.string (rtx t.c.z)] (by rfl) W.heap.size (by rfl) (by omega) rfl (by simp [Value.oneCell']) (by rw [HNN.out]; exact own_below HSP.out.r1 (ba (bd (br _)))) (heap_new _ _) (Nat.le_trans HSP.out.hB (by simp)) (by have:=HLN.out; have:=HNN.out; omega) ?_
      intro v' w1 hown hg hat
      obtain ⟨A',cap',rfl⟩:=own_sl hown
      have KPB : Bk w1 (w.heap.size+1) _:=bk_two HSP.out.kp (ba (bd (br _))) hg (fun k e=>by have:=own_base_le HSP.out.r1 k (by rw [← HNN.out]; exact e); have:=HSP.out.pB; omega)
      have d0:=KPB.cell 1 _ rfl
      have f0:=KPB.free 1
      have hl1:=KPB.lt
      have TWO : Two (w.heap.size+1) _ W (w1.setCell ⟨w.heap.size+1,1,none⟩ (.slice A' (nn+1) cap')):=two_edge (ba (bd (br _))) hg 1 _
      have OWN:=own_put hown (p:=⟨w.heap.size+1,1,none⟩) HSP.out.pB (.slice A' (nn+1) cap')
      have KB2:=KPB.set 1 (by simp) (.slice A' (nn+1) cap')
      have HALL:=Lib.hid (And.intro TWO (And.intro OWN (And.intro KB2 hat)))
      refine hK _ _ ?_
      clear hK K hown hg hat KPB TWO OWN KB2
      try simp only [Act.put,lsx]
      refine wpAny_take (i:=8) (v:=.pointer (some ⟨w.heap.size+1,1,none⟩)) rfl (by kernel_rfl) (by kernel_rfl) (by kernel_rfl) (fun _ _ _ h=>h) (Or.inl ⟨rfl,fun w'=>?_⟩) ?_
      ·go_simp
      try simp only [Act.put,lsx]
      refine wpAny_ready (rs:=[9]) (by kernel_rfl) (by simp) ?_
      refine (AllReady.cons rfl (fun K hK=>?_) AllReady.nil)
      rw [if_pos (by rfl)]
      go_simp
      refine hK _ _ ?_
      clear hK K
      try simp only [Act.put,lsx]
      refine wpAny_done (by kernel_rfl) ?_ _
      gi_wp2
      obtain ⟨htwo,hown,hkb,hat⟩:=HALL.out
      obtain ⟨h1,h2,h3⟩:=HSP.out.up (u':=pre.flatMap PcU++[txt t]) (by rw [← HNN.out]; exact htwo) hkb (by rw [List.length_append,← HNN.out,tcs_append]; exact hown) (by rw [← HNN.out]; exact hat.imp id (fun h=>⟨_,h,by simp⟩))
      have e1 : (pre++[Sum.inl (t,true)]).flatMap PcU=pre.flatMap PcU++[txt t]:=by simp [PcU]
      have e2 : (pre++[Sum.inl (t,true)]).flatMap PcD=pre.flatMap PcD:=by simp [PcD]
      have e3 : (pre++[Sum.inl (t,true)]).flatMap PcS=pre.flatMap PcS:=by simp [PcS]
      rw [← e1,← e2,← e3] at h1
      exact ⟨h3,h2,_,_,_,h1,two_bel HBW.out htwo (by omega) (fun k hk=>by have:=own_base_le HSP.out.r1 k (by rw [← HNN.out]; exact hk); omega),HK1.out.kx h2,HK2.out.kx h2,HK3.out.kx h2⟩
  ·cases hx
 case edge =>
  rintro pre x W hx ⟨v0,v1,v2,hsp,hbw,k1,k2,k3⟩ hlen
  obtain z | ⟨d,e⟩:=x
  ·cases hx
  ·have hlS:=len_PcS pre
   refine (callsIn_wide.2 (edge_row (txe (d,e)) (w.heap.size+1+1) wP.heap.size v2 (pre.flatMap PcS) W hsp.ks hsp.sB hsp.hB hsp.r2 (by have:=HM.out; omega))).mono ?_
   rintro en W' ⟨hu,v',hk',ho',htwo,hat⟩
   obtain ⟨h1,h2,h3⟩:=hsp.edge (e':=pre.flatMap PcS++[txe (d,e)]) htwo hk' (by rw [List.length_append]; exact ho') hat
   refine ⟨hu,h3,h2,v0,v1,v', ?_, ?_,k1.kx h2,k2.kx h2,k3.kx h2⟩
   ·have e1 : (pre++[Sum.inr (d,e)]).flatMap PcD=pre.flatMap PcD:=by simp [PcD]
    have e2 : (pre++[Sum.inr (d,e)]).flatMap PcU=pre.flatMap PcU:=by simp [PcU]
    have e3 : (pre++[Sum.inr (d,e)]).flatMap PcS=pre.flatMap PcS++[txe (d,e)]:=by simp [PcS,txe]
    rw [e1,e2,e3]
    exact h1
   ·exact two_bel hbw htwo (by omega) (fun k hk=>by have:=(hsp.row (k:=k) (by simp [hk])).1; omega)
 case done =>
  rintro D xs W hD rfl ⟨v0,v1,v2,hsp,hbw,k1,k2,k3⟩ hdf
  obtain ⟨hq1,hq2,hq3⟩:=pcs_dn p L
  rw [hq1,hq2,hq3] at hsp
  have c0:=hsp.kp.cell 0 _ rfl
  have c1:=hsp.kp.cell 1 _ rfl
  have c2:=hsp.ks.cell 0 _ rfl
  have HSP:=Lib.hid hsp
  have HBW:=Lib.hid hbw
  clear hsp hbw k1 k2 k3 hq1 hq2 hq3
  gi_wp2_with fail
  refine wpIn_wide.2 ?_
  go_quiet (fail)
  have hdf2 : (W.drewN nq).heap[D]?=some (.deferred (some [])):=hdf
  gi_wp2
  refine ⟨by simp,.inl ⟨_,_,rfl,run_takeDeferred hdf2, ?_⟩⟩
  have S2:=(HSP.out.below (below_drewN (br W) nq)).grown (grownBy_putObj' (W.drewN nq) D (.deferred none)) (fun r e=>by cases e; exact ⟨hD,_,hdf2,rfl⟩)
  have hL0 : ((dnL p L).map txt).length=(dnL p L).length:=List.length_map _
  have hL1 : ((upL p L).map txt).length=(upL p L).length:=List.length_map _
  have hL2 : ((seL p L).map txe).length=(seL p L).length:=List.length_map _
  have r0:=own_base S2.r0 hwP
  have r1:=own_base S2.r1 hwP
  have r2:=own_base S2.r2 hwP
  rw [hL0] at r0
  rw [hL1] at r1
  rw [hL2] at r2
  refine ⟨_,results_tmp3 rfl _ _ _,v0,v1,v2,rfl,r0,r1,r2, ?_⟩
  have B2:=below_drewN HBW.out nq
  exact B2.trans ⟨rfl,rfl,rfl,by simp,fun k hk=>World.putObj_heap_other (show k≠D by omega)⟩
end Go.Proofs.YtopfedbhkfdjkaaGreatDoor


/- clip: Below, Above, Section: the walks. -/
namespace Go.Proofs.YtopfedbhkfdjkaaGreatDoor
open Go Go.RowKit
def SpT (D U : List TV) (E : List (SV × SV)) (w : World) (e : Ending) (w' : World) : Prop:=∃ v0 v1 v2,e=.returned (.tuple #[v0,v1,v2]) ∧
 w'.ownsRow w.heap.size 36 9 v0 D.length (tcs D)∧w'.ownsRow w.heap.size 36 9 v1 U.length (tcs U)∧w'.ownsRow w.heap.size 54 6 v2 E.length (sgs E)∧Below w.heap.size w w'
theorem SpR.texts {p : Pl} {L : List (Tr V3)} {w : World} {e : Ending} {w' : World} (h : SpR p L w e w') : SpT ((dnL p L).map txt) ((upL p L).map txt) ((seL p L).map txe) w e w':=by
 obtain ⟨v0,v1,v2,he,r0,r1,r2,g⟩:=h
 refine ⟨v0,v1,v2,he, ?_, ?_, ?_,g⟩
 ·rw [List.length_map]; exact r0
 ·rw [List.length_map]; exact r1
 ·rw [List.length_map]; exact r2
def SolR (l : List TV) (w : World) (e : Ending) (w' : World) : Prop:=∃ A c,e=.returned (.tuple #[.slice A l.length c,.int .i64 0])∧Ts w' (.slice A l.length c) l∧Below w.heap.size w w'
def SegR (l : List (SV × SV)) (w : World) (e : Ending) (w' : World) : Prop:=∃ A c,e=.returned (.tuple #[.slice A l.length c,.int .i64 0])∧Ss w' (.slice A l.length c) l∧Below w.heap.size w w'
set_option maxHeartbeats 1000000 in
theorem cBelow_bad (A : Option Addr) (n cap : Nat) (l : List TV) (x1 x2 x3 x4 : ByteArray) (w : World) (hB : Bw w) (hv : Ts w (.slice A n cap) l) (z : Int) (hz : (z != 0)=true)
  (h1 : ∀ w,Bw w→Ts w (.slice A n cap) l→Calls Tryz.prog 46 #[.slice A n cap,.agg #[.string x1,.string x2,.string x3,.string x4]] w fun e w'=>e=.returned (.int .i64 z)∧Below w.heap.size w w') :
  Calls Tryz.prog 12 #[.slice A n cap,.agg #[.string x1,.string x2,.string x3,.string x4]] w fun e w'=>e=.returned (.tuple #[.slice none 0 0,.int .i64 z])∧Below w.heap.size w w':=by
 have HV:=Lib.hid hv
 have H1:=Lib.hid h1
 clear hv h1
 go_enter Tryz.func12,Tryz.ntmps12
 go_wp2_with fail
 refine (H1.out _ (hB.below bel) (HV.out.below bel)).mono ?_
 rintro e w1 ⟨rfl,g1⟩
 have B1:=bn (w:=w) bel g1
 clear g1
 go_wp2
 go_ret2
 exact ⟨rfl,bel⟩
set_option maxHeartbeats 1000000 in
theorem cAbove_bad (A : Option Addr) (n cap : Nat) (l : List TV) (x1 x2 x3 x4 : ByteArray) (w : World) (hB : Bw w) (hv : Ts w (.slice A n cap) l) (z : Int) (hz : (z != 0)=true)
  (h1 : ∀ w,Bw w→Ts w (.slice A n cap) l→Calls Tryz.prog 46 #[.slice A n cap,.agg #[.string x1,.string x2,.string x3,.string x4]] w fun e w'=>e=.returned (.int .i64 z)∧Below w.heap.size w w') :
  Calls Tryz.prog 15 #[.slice A n cap,.agg #[.string x1,.string x2,.string x3,.string x4]] w fun e w'=>e=.returned (.tuple #[.slice none 0 0,.int .i64 z])∧Below w.heap.size w w':=by
 have HV:=Lib.hid hv
 have H1:=Lib.hid h1
 clear hv h1
 go_enter Tryz.func15,Tryz.ntmps15
 go_wp2_with fail
 refine (H1.out _ (hB.below bel) (HV.out.below bel)).mono ?_
 rintro e w1 ⟨rfl,g1⟩
 have B1:=bn (w:=w) bel g1
 clear g1
 go_wp2
 go_ret2
 exact ⟨rfl,bel⟩
set_option maxHeartbeats 1000000 in
theorem cSection_bad (A : Option Addr) (n cap : Nat) (l : List TV) (x1 x2 x3 x4 : ByteArray) (w : World) (hB : Bw w) (hv : Ts w (.slice A n cap) l) (z : Int) (hz : (z != 0)=true)
  (h1 : ∀ w,Bw w→Ts w (.slice A n cap) l→Calls Tryz.prog 46 #[.slice A n cap,.agg #[.string x1,.string x2,.string x3,.string x4]] w fun e w'=>e=.returned (.int .i64 z)∧Below w.heap.size w w') :
  Calls Tryz.prog 17 #[.slice A n cap,.agg #[.string x1,.string x2,.string x3,.string x4]] w fun e w'=>e=.returned (.tuple #[.slice none 0 0,.int .i64 z])∧Below w.heap.size w w':=by
 have HV:=Lib.hid hv
 have H1:=Lib.hid h1
 clear hv h1
 go_enter Tryz.func17,Tryz.ntmps17
 go_wp2_with fail
 refine (H1.out _ (hB.below bel) (HV.out.below bel)).mono ?_
 rintro e w1 ⟨rfl,g1⟩
 have B1:=bn (w:=w) bel g1
 clear g1
 go_wp2
 go_ret2
 exact ⟨rfl,bel⟩
set_option maxHeartbeats 1000000 in
theorem cSection_at (A : Option Addr) (n cap : Nat) (l : List TV) (x1 x2 x3 x4 : ByteArray) (w : World) (hB : Bw w) (hv : Ts w (.slice A n cap) l) (D U : List TV) (E : List (SV × SV)) (hD : D.length≤1000000) (hU : U.length≤1000000) (hE : E.length≤1000000)
  (h1 : ∀ w,Bw w→Ts w (.slice A n cap) l→Calls Tryz.prog 46 #[.slice A n cap,.agg #[.string x1,.string x2,.string x3,.string x4]] w fun e w'=>e=.returned (.int .i64 0)∧Below w.heap.size w w')
  (h2 : ∀ w,Bw w→Ts w (.slice A n cap) l→Calls Tryz.prog 47 #[.slice A n cap,.agg #[.string x1,.string x2,.string x3,.string x4]] w (SpT D U E w)) :
  Calls Tryz.prog 17 #[.slice A n cap,.agg #[.string x1,.string x2,.string x3,.string x4]] w (SegR E w):=by
 have H2:=Lib.hid h2
 clear h2
 have HV:=Lib.hid hv
 have H1:=Lib.hid h1
 clear hv h1
 go_enter Tryz.func17,Tryz.ntmps17
 go_wp2_with fail
 refine (H1.out _ (hB.below bel) (HV.out.below bel)).mono ?_
 rintro e w1 ⟨rfl,g1⟩
 have KP : Bk w1 w.heap.size [.string x1,.string x2,.string x3,.string x4]:=Bk.below bkk g1
 have BB1:=bn (w:=w) bel g1
 clear g1
 obtain ⟨a0,a1,a2,a3, -⟩:=KP.c4
 go_wp2_with fail
 refine (H2.out _ (hB.below BB1) (HV.out.below BB1)).mono ?_
 rintro e w2 ⟨v0,v1,v2,rfl,r0,r1,r2,g2⟩
 have BB2 : Below w.heap.size w w2:=bn BB1 g2
 obtain ⟨nd,hnd⟩ : ∃ x,x=D.length:=⟨_,rfl⟩
 obtain ⟨nu,hnu⟩ : ∃ x,x=U.length:=⟨_,rfl⟩
 obtain ⟨ne,hne⟩ : ∃ x,x=E.length:=⟨_,rfl⟩
 rw [← hnd] at r0 hD
 rw [← hnu] at r1 hU
 rw [← hne] at r2 hE
 obtain ⟨A0,c0,rfl⟩:=own_sl r0
 obtain ⟨A1,c1,rfl⟩:=own_sl r1
 obtain ⟨A2,c2,rfl⟩:=own_sl r2
 have R0:=Lib.hid r0
 have R1:=Lib.hid r1
 have R2:=Lib.hid r2
 have ND:=Lib.hid hnd
 have NU:=Lib.hid hnu
 have NE:=Lib.hid hne
 have HWS:=Lib.hid BB1.size
 clear r0 r1 r2 hnd hnu hne a0 a1 a2 a3 KP
 go_wp2
 go_ret2
 rw [NE.out] at R2 ⊢
 exact ⟨_,_,rfl,Ss.own R2.out,BB2⟩
set_option maxHeartbeats 1000000 in
theorem cBelow_at (A : Option Addr) (n cap : Nat) (l : List TV) (x1 x2 x3 x4 : ByteArray) (w : World) (hB : Bw w) (hv : Ts w (.slice A n cap) l) (D U : List TV) (E : List (SV × SV)) (hD : D.length≤1000000) (hU : U.length≤1000000) (hE : E.length≤1000000) (hC : (capS E).length≤1000000) (hS : D.length + (capS E).length≤512)
  (h1 : ∀ w,Bw w→Ts w (.slice A n cap) l→Calls Tryz.prog 46 #[.slice A n cap,.agg #[.string x1,.string x2,.string x3,.string x4]] w fun e w'=>e=.returned (.int .i64 0)∧Below w.heap.size w w')
  (h2 : ∀ w,Bw w→Ts w (.slice A n cap) l→Calls Tryz.prog 47 #[.slice A n cap,.agg #[.string x1,.string x2,.string x3,.string x4]] w (SpT D U E w)) :
  Calls Tryz.prog 12 #[.slice A n cap,.agg #[.string x1,.string x2,.string x3,.string x4]] w (SolR (D++capS E) w):=by
 have H2:=Lib.hid h2
 clear h2
 have HV:=Lib.hid hv
 have H1:=Lib.hid h1
 clear hv h1
 go_enter Tryz.func12,Tryz.ntmps12
 go_wp2_with fail
 refine (H1.out _ (hB.below bel) (HV.out.below bel)).mono ?_
 rintro e w1 ⟨rfl,g1⟩
 have KP : Bk w1 w.heap.size [.string x1,.string x2,.string x3,.string x4]:=Bk.below bkk g1
 have BB1:=bn (w:=w) bel g1
 clear g1
 obtain ⟨a0,a1,a2,a3, -⟩:=KP.c4
 go_wp2_with fail
 refine (H2.out _ (hB.below BB1) (HV.out.below BB1)).mono ?_
 rintro e w2 ⟨v0,v1,v2,rfl,r0,r1,r2,g2⟩
 have BB2 : Below w.heap.size w w2:=bn BB1 g2
 obtain ⟨nd,hnd⟩ : ∃ x,x=D.length:=⟨_,rfl⟩
 obtain ⟨nu,hnu⟩ : ∃ x,x=U.length:=⟨_,rfl⟩
 obtain ⟨ne,hne⟩ : ∃ x,x=E.length:=⟨_,rfl⟩
 rw [← hnd] at r0 hD
 rw [← hnu] at r1 hU
 rw [← hne] at r2 hE
 obtain ⟨A0,c0,rfl⟩:=own_sl r0
 obtain ⟨A1,c1,rfl⟩:=own_sl r1
 obtain ⟨A2,c2,rfl⟩:=own_sl r2
 have R0:=Lib.hid r0
 have R1:=Lib.hid r1
 have R2:=Lib.hid r2
 have ND:=Lib.hid hnd
 have NU:=Lib.hid hnu
 have NE:=Lib.hid hne
 have HWS:=Lib.hid BB1.size
 clear r0 r1 r2 hnd hnu hne a0 a1 a2 a3 KP
 go_wp2_with fail
 refine (covers_own _ E _ (by have:=Ss.own (by rw [NE.out] at R2; exact R2.out); rw [← NE.out] at this; exact this) (by rw [← NE.out]; exact hE)).mono ?_
 rintro e w3 ⟨u,rfl,hu,g3⟩
 have BB3 : Below w.heap.size w w3:=bn BB2 g3
 have G3 : Below w1.heap.size w1 w3:=bn g2 g3
 have hz3 : w1.heap.size≤w3.heap.size:=G3.size
 obtain ⟨nc,hnc⟩ : ∃ x,x=(capS E).length:=⟨_,rfl⟩
 have hu2 : w3.ownsRow w2.heap.size 36 9 u nc (tcs (capS E)):=by rw [hnc]; exact hu
 obtain ⟨A3,c3,rfl⟩:=own_sl hu2
 rw [← hnc] at hC hS
 have HU:=Lib.hid hu2
 have NC:=Lib.hid hnc
 rw [← ND.out] at hS
 have R03 : Hid (w3.ownsRow w1.heap.size 36 9 (.slice A0 nd c0) nd (tcs D)):=Lib.hid (own_below R0.out g3)
 clear hnc hu hu2 g3 R0 R1 R2
 go_wp2_with (at_builtin; refine append_rd (w0:=w1) w1.heap.size rfl (.tmp 23) (.tmp 25) 23 36 _ 9 144 rfl Tryz.underlying23 info_tri rfl (by omega) (by omega) _ nd nc (tcs D) (tcs (capS E)) rfl _ rfl (Rd.own HU.out) (tcs_one_cell _) R03.out G3 hz3 (by omega) ?_; intro v4 w4 hown4 hb4 hg4; clear hg4; obtain ⟨A4,c4,rfl⟩:=own_sl hown4; have R4:=Lib.hid hown4; clear hown4)
 have BB4 : Below w.heap.size w w4:=bn BB1 hb4
 clear G3 g2 hb4
 go_wp2_with fail
 refine (climited_ok A4 (nd+nc) c4 hS w4).mono ?_
 rintro e w5 ⟨rfl,g5⟩
 have BB5 : Below w.heap.size w w5:=bn BB4 g5
 have R5:=Lib.hid (own_below R4.out g5)
 clear g5
 go_wp2
 go_ret2
 have hl : nd+nc=(D++capS E).length:=by rw [List.length_append,ND.out,NC.out]
 rw [hl,← tcs_append] at R5
 rw [hl]
 exact ⟨_,_,rfl,Ts.own R5.out,BB5⟩
set_option maxHeartbeats 4000000 in
set_option maxRecDepth 100000 in
theorem cAbove_at (A : Option Addr) (n cap : Nat) (l : List TV) (x1 x2 x3 x4 : ByteArray) (w : World) (hB : Bw w) (hv : Ts w (.slice A n cap) l) (D U : List TV) (E : List (SV × SV)) (hD : D.length≤1000000) (hU : U.length≤1000000) (hE : E.length≤1000000) (hC : (capS E).length≤1000000) (hS : U.length + (capS E).length≤512)
  (h1 : ∀ w,Bw w→Ts w (.slice A n cap) l→Calls Tryz.prog 46 #[.slice A n cap,.agg #[.string x1,.string x2,.string x3,.string x4]] w fun e w'=>e=.returned (.int .i64 0)∧Below w.heap.size w w')
  (h2 : ∀ w,Bw w→Ts w (.slice A n cap) l→Calls Tryz.prog 47 #[.slice A n cap,.agg #[.string x1,.string x2,.string x3,.string x4]] w (SpT D U E w)) :
  Calls Tryz.prog 15 #[.slice A n cap,.agg #[.string x1,.string x2,.string x3,.string x4]] w (SolR (U++(capS E).map Tr.turn) w):=by
 have H2:=Lib.hid h2
 clear h2
 have HV:=Lib.hid hv
 have H1:=Lib.hid h1
 clear hv h1
 go_enter Tryz.func15,Tryz.ntmps15
 go_wp2_with fail
 refine (H1.out _ (hB.below bel) (HV.out.below bel)).mono ?_
 rintro e w1 ⟨rfl,g1⟩
 have KP : Bk w1 w.heap.size [.string x1,.string x2,.string x3,.string x4]:=Bk.below bkk g1
 have BB1:=bn (w:=w) bel g1
 clear g1
 obtain ⟨a0,a1,a2,a3, -⟩:=KP.c4
 go_wp2_with fail
 refine (H2.out _ (hB.below BB1) (HV.out.below BB1)).mono ?_
 rintro e w2 ⟨v0,v1,v2,rfl,r0,r1,r2,g2⟩
 have BB2 : Below w.heap.size w w2:=bn BB1 g2
 obtain ⟨nd,hnd⟩ : ∃ x,x=D.length:=⟨_,rfl⟩
 obtain ⟨nu,hnu⟩ : ∃ x,x=U.length:=⟨_,rfl⟩
 obtain ⟨ne,hne⟩ : ∃ x,x=E.length:=⟨_,rfl⟩
 rw [← hnd] at r0 hD
 rw [← hnu] at r1 hU
 rw [← hne] at r2 hE
 obtain ⟨A0,c0,rfl⟩:=own_sl r0
 obtain ⟨A1,c1,rfl⟩:=own_sl r1
 obtain ⟨A2,c2,rfl⟩:=own_sl r2
 have R0:=Lib.hid r0
 have R1:=Lib.hid r1
 have R2:=Lib.hid r2
 have ND:=Lib.hid hnd
 have NU:=Lib.hid hnu
 have NE:=Lib.hid hne
 have HWS:=Lib.hid BB1.size
 clear r0 r1 r2 hnd hnu hne a0 a1 a2 a3 KP
 go_wp2_with fail
 refine (covers_own _ E _ (by have:=Ss.own (by rw [NE.out] at R2; exact R2.out); rw [← NE.out] at this; exact this) (by rw [← NE.out]; exact hE)).mono ?_
 rintro e w3 ⟨u,rfl,hu,g3⟩
 have BB3 : Below w.heap.size w w3:=bn BB2 g3
 have G3 : Below w1.heap.size w1 w3:=bn g2 g3
 have hz3 : w1.heap.size≤w3.heap.size:=G3.size
 obtain ⟨nc,hnc⟩ : ∃ x,x=(capS E).length:=⟨_,rfl⟩
 have hu2 : w3.ownsRow w2.heap.size 36 9 u nc (tcs (capS E)):=by rw [hnc]; exact hu
 obtain ⟨A3,c3,rfl⟩:=own_sl hu2
 rw [← hnc] at hC hS
 have HU:=Lib.hid hu2
 have NC:=Lib.hid hnc
 rw [← NU.out] at hS
 have HS:=Lib.hid hS
 have R13 : Hid (w3.ownsRow w1.heap.size 36 9 (.slice A1 nu c1) nu (tcs U)):=Lib.hid (own_below R1.out g3)
 have hap : ∀ q,(Value.slice A1 nu c1).ownBlock=some q→(Value.slice A3 nc c3).ownBlock≠some q:=fun q hq h3=>by
  have h4:=(own_cells' R1.out hq).choose_spec.2.2
  have h5:=own_base_le hu2 q h3
  omega
 have HAP:=Lib.hid hap
 have HG:=Lib.hid (fun k (hk : k<nc)=>(show ∃ t,(capS E)[k]?=some t from ⟨_,List.getElem?_eq_getElem (by rw [← hnc]; exact hk)⟩))
 have HTE:=Lib.hid (show (capS E).take nc=capS E from by rw [hnc]; exact List.take_length)
 have h23:=g2.size
 have hz4:=BB1.size
 clear hu hu2 g3 R0 R1 R2 hap
 generalize capS E=F at *
 clear hnc
 go_wp2_with fail
 go_loopw [8,28] (fun pv ii wr=>∃ k : Nat,k≤nc∧ii=.int .i64 k∧Hid (wr.ownsRow w1.heap.size 36 9 pv (nu+k) (tcs (U++(F.take k).map Tr.turn)))∧Hid (∀ q,pv.ownBlock=some q→(Value.slice A3 nc c3).ownBlock≠some q)∧Hid (wr.ownsRow w2.heap.size 36 9 (.slice A3 nc c3) nc (tcs F))∧Below w1.heap.size w1 wr) (fun _ ii _=>nc - (intOf ii).toNat)
 case atStart=>exact ⟨0,Nat.zero_le _,rfl,Lib.hid (by simpa using R13.out),HAP,HU,G3⟩
 case round =>
  obtain ⟨k,hk,rfl,hown,hap,hcv,hb⟩:=hrel
  by_cases hlt : k<nc
  ·obtain ⟨t,hg⟩:=HG.out k hlt
   obtain ⟨b,off,hA3,t0,t1,t2,t3,t4,t5,t6,t7,t8⟩:=ts_nth (k:=k) (Ts.own (by rw [NC.out] at hcv; exact hcv.out)) hg
   subst hA3
   obtain ⟨Ap,cp,rfl⟩:=own_sl hown.out
   have HST:=Lib.hid (show (F.take (k+1)).map Tr.turn=(F.take k).map Tr.turn++[t.turn] from by rw [List.take_add_one,hg,List.map_append]; rfl)
   have HT : Hid (tcs [t.turn]=[.string t.a.x,.string t.a.y,.string t.a.z,.string t.c.x,.string t.c.y,.string t.c.z,.string t.b.x,.string t.b.y,.string t.b.z]):=Lib.hid rfl
   have hk0 : (0 : Int)≤(k : Int):=by omega
   have hkn : (k : Int)<(nc : Int):=by omega
   have hbl:=World.block_lt_of_cell? wr _ t0
   have hsz:=hb.size
   have HN:=Lib.hid (show nu+k+1≤1000000 from by have:=HS.out; omega)
   clear hg
   generalize t.a.x=s1 at *
   generalize t.a.y=s2 at *
   generalize t.a.z=s3 at *
   generalize t.b.x=s4 at *
   generalize t.b.y=s5 at *
   generalize t.b.z=s6 at *
   generalize t.c.x=s7 at *
   generalize t.c.y=s8 at *
   generalize t.c.z=s9 at *
   go_wp2_with (at_builtin; refine append_row (X:=(wr.alloc (.cells #[.string s1,.string s2,.string s3,.string s4,.string s5,.string s6,.string s7,.string s8,.string s9] 36)).alloc (.cells #[.string s1,.string s2,.string s3,.string s7,.string s8,.string s9,.string s4,.string s5,.string s6] 36)) w1.heap.size rfl (.tmp 32) (.tmp 40) 23 36 _ 9 144 rfl Tryz.underlying23 info_tri rfl (by omega) (by omega) (.slice Ap (nu+k) cp) (nu+k) 1 _ [.string s1,.string s2,.string s3,.string s7,.string s8,.string s9,.string s4,.string s5,.string s6] rfl (wr.heap.size+1) rfl (by omega) rfl (by simp [Value.oneCell']) ((hown.out.alloc _).alloc _) (box_at _ _ (by simp)) (by (try simp)<;>omega) (by have:=HN.out; omega) ?_; intro v4 w4 hown4 hg4 hat4; have HR4:=Lib.hid (And.intro hown4 (And.intro hg4 hat4)); clear hown4 hg4 hat4)
   obtain ⟨hown4,hg4,hat4⟩:=HR4.out
   have B4 : Below w1.heap.size w1 w4:=((hb.alloc hsz _).alloc (by simp; omega) _).grown hg4 (by simp; omega) (fun q e=>own_base_le hown.out q e)
   have hcv4 : w4.ownsRow w2.heap.size 36 9 (.slice (some ⟨b,off,none⟩) nc c3) nc (tcs F):=((hcv.out.alloc _).alloc _).kept hg4 (by
    by_cases h : (Value.slice (some ⟨b,off,none⟩) nc c3).ownBlock=none
    ·exact .inl h
    ·refine .inr (fun e=>?_)
     obtain ⟨q,hq⟩:=Option.ne_none_iff_exists'.1 h
     exact hap.out q (e.symm.trans hq) hq)
   have hap4 : ∀ q,v4.ownBlock=some q→(Value.slice (some ⟨b,off,none⟩) nc c3).ownBlock≠some q:=fun q hq h3=>by
    rcases hat4 with h | h
    ·exact hap.out q (h.symm.trans hq) h3
    ·rw [h] at hq
     have h5:=(own_cells' hcv.out h3).choose_spec.2.2
     simp at hq
     omega
   have HO4 : Hid (w4.ownsRow w1.heap.size 36 9 v4 (nu + (k+1)) (tcs (U++(F.take (k+1)).map Tr.turn))):=Lib.hid (by
    rw [HST.out,← List.append_assoc,tcs_append,HT.out]
    exact hown4)
   have HA4:=Lib.hid hap4
   have HC4:=Lib.hid hcv4
   clear HR4 hown4 hg4 hat4 hcv4 hap4 t0 t1 t2 t3 t4 t5 t6 t7 t8
   go_wp2
   go_roundw
   case rel=>exact ⟨k+1,by omega,by go_num,HO4,HA4,HC4,B4⟩
   case measure=>simp [intOf]; omega
  ·obtain rfl : k=nc:=by omega
   obtain ⟨Ap,cp,rfl⟩:=own_sl hown.out
   rw [HTE.out] at hown
   have BBr : Below w.heap.size w wr:=bn BB1 hb
   go_wp2_with fail
   refine (climited_ok Ap (nu+k) cp hS wr).mono ?_
   rintro e w5 ⟨rfl,g5⟩
   have BB5 : Below w.heap.size w w5:=bn BBr g5
   have R5:=Lib.hid (own_below hown.out g5)
   clear g5
   go_wp2
   go_ret2
   have hl : nu+k=(U++F.map Tr.turn).length:=by rw [List.length_append,List.length_map,NU.out,NC.out]
   rw [hl] at R5
   rw [hl]
   exact ⟨_,_,rfl,Ts.own R5.out,BB5⟩
end Go.Proofs.YtopfedbhkfdjkaaGreatDoor


/- Solids cut by planes, in plain Lean: moved solids and planes, planes in the other length, planes beside a solid. No program in sight. -/
namespace Go.Proofs.YtopfedbhkfdjkaaGreatDoor
section
variable {p q : Pl} {f : V3→V3}
end
theorem cut_low {p : Pl} : ∀ {l : List (Tr V3)},allP (fun q=>p.height q≤0) l→dnL p l=l∧upL p l=[]∧seL p l=[]
 | [],_=>⟨rfl,rfl,rfl⟩
 | t :: l,h=>by
  obtain ⟨h1,h2,h3⟩:=cut_low (l:=l) (fun u hu=>h u (by simp [hu]))
  obtain ⟨ha,hb,hc⟩:=h t (by simp)
  have q : ∀ {a : V3},p.height a≤0→upP p a=false:=fun h=>decide_eq_false (by grind)
  have e1 : dnT p t=[t]:=by unfold dnT; rw [q ha,q hb,q hc]
  have e2 : upT p t=[]:=by unfold upT; rw [q ha,q hb,q hc]
  have e3 : seT p t=[]:=by unfold seT; rw [q ha,q hb,q hc]
  refine ⟨?_, ?_, ?_⟩
  ·show dnT p t++dnL p l=_; rw [h1,e1]; rfl
  ·show upT p t++upL p l=_; rw [h2,e2]; rfl
  ·show seT p t++seL p l=_; rw [h3,e3]; rfl
theorem parts_low {p : Pl} {l : List (Tr V3)} (h : allP (fun q=>p.height q≤0) l) : underL p l=l∧overL p l=[]:=by
 obtain ⟨h1,h2,h3⟩:=cut_low h
 unfold underL overL
 rw [h1,h2,h3]
 exact ⟨List.append_nil _,rfl⟩
end Go.Proofs.YtopfedbhkfdjkaaGreatDoor


/- clip: Below, Above, Section of valid solids and planes, on numbers; how long the parts and their texts are. -/
namespace Go.Proofs.YtopfedbhkfdjkaaGreatDoor
open Go Go.RowKit
/-! ### Where the points of the parts come from -/
section
variable {p : Pl} {P R : V3→Prop}
theorem rest_all (h2 : ∀ a,R a→P a) (h3 : ∀ a b,R a→R b→P (crossV p a b)) {a b c : V3} (ha : R a) (hb : R b) (hc : R c) : allP P (rest p a b c)∧allP P [lone p a b c]∧∀ f,∀ e ∈ edgeA p a b c f,P e.1∧P e.2:=by
 have q1:=h3 a b ha hb
 have q2:=h3 a c ha hc
 refine ⟨fun t ht=>?_,fun t ht=>?_,fun f e he=>?_⟩
 ·simp only [rest,List.mem_cons,List.not_mem_nil,or_false] at ht
  rcases ht with rfl | rfl
  ·exact ⟨q1,h2 _ hb,h2 _ hc⟩
  ·exact ⟨q1,h2 _ hc,q2⟩
 ·simp only [List.mem_cons,List.not_mem_nil,or_false] at ht
  subst ht
  exact ⟨h2 _ ha,q1,q2⟩
 ·unfold edgeA at he
  by_cases h : crossV p a b=crossV p a c
  ·rw [if_pos h] at he; cases he
  ·rw [if_neg h] at he
   cases f
   ·simp at he; subst he; exact ⟨q2,q1⟩
   ·simp at he; subst he; exact ⟨q1,q2⟩
theorem allP_nil : allP P []:=fun t ht=>by cases ht
theorem tri_all (h2 : ∀ a,R a→P a) (h3 : ∀ a b,R a→R b→P (crossV p a b)) {t : Tr V3} (ht : R t.a∧R t.b∧R t.c) : allP P (dnT p t)∧allP P (upT p t)∧∀ e ∈ seT p t,P e.1∧P e.2:=by
 obtain ⟨ha,hb,hc⟩:=ht
 have k1:=rest_all (p:=p) h2 h3 ha hb hc
 have k2:=rest_all (p:=p) h2 h3 hb hc ha
 have k3:=rest_all (p:=p) h2 h3 hc ha hb
 have k0 : allP P [t]:=fun u hu=>by simp at hu; subst hu; exact ⟨h2 _ ha,h2 _ hb,h2 _ hc⟩
 unfold dnT upT seT
 cases upP p t.a<;>cases upP p t.b<;>cases upP p t.c
 ·exact ⟨k0,allP_nil,fun e he=>by cases he⟩
 ·exact ⟨k3.1,k3.2.1,k3.2.2 _⟩
 ·exact ⟨k2.1,k2.2.1,k2.2.2 _⟩
 ·exact ⟨k1.2.1,k1.1,k1.2.2 _⟩
 ·exact ⟨k1.1,k1.2.1,k1.2.2 _⟩
 ·exact ⟨k2.2.1,k2.1,k2.2.2 _⟩
 ·exact ⟨k3.2.1,k3.1,k3.2.2 _⟩
 ·exact ⟨allP_nil,k0,fun e he=>by cases he⟩
theorem capX_all {o : V3} (ho : P o) (f : Bool) {s : List (V3 × V3)} (h : ∀ e ∈ s,P e.1∧P e.2) : allP P (s.flatMap (capX o f)):=by
 intro t ht
 obtain ⟨e,he,ht⟩:=List.mem_flatMap.1 ht
 obtain ⟨h1,h2⟩:=h e he
 unfold capX at ht
 by_cases hc : e.1=o∨e.2=o
 ·rw [if_pos hc] at ht; cases ht
 ·rw [if_neg hc] at ht
  cases f
  ·simp at ht; subst ht; exact ⟨ho,h1,h2⟩
  ·simp at ht; subst ht; exact ⟨ho,h2,h1⟩
theorem capL_all (f : Bool) {s : List (V3 × V3)} (h : ∀ e ∈ s,P e.1∧P e.2) : allP P (capL s f):=by
 cases s with
 | nil=>exact allP_nil
 | cons x s=>exact capX_all (h x (by simp)).1 f h
theorem parts_all (h2 : ∀ a,R a→P a) (h3 : ∀ a b,R a→R b→P (crossV p a b)) {L : List (Tr V3)} (hL : allP R L) : allP P (dnL p L)∧allP P (upL p L)∧(∀ e ∈ seL p L,P e.1∧P e.2)∧allP P (underL p L)∧allP P (overL p L):=by
 have k1 : allP P (dnL p L):=fun t ht=>by
  obtain ⟨u,hu,ht⟩:=List.mem_flatMap.1 ht
  exact (tri_all h2 h3 (hL u hu)).1 t ht
 have k2 : allP P (upL p L):=fun t ht=>by
  obtain ⟨u,hu,ht⟩:=List.mem_flatMap.1 ht
  exact (tri_all h2 h3 (hL u hu)).2.1 t ht
 have k3 : ∀ e ∈ seL p L,P e.1∧P e.2:=fun t ht=>by
  obtain ⟨u,hu,ht⟩:=List.mem_flatMap.1 ht
  exact (tri_all h2 h3 (hL u hu)).2.2 t ht
 refine ⟨k1,k2,k3,fun t ht=>?_,fun t ht=>?_⟩
 ·rcases List.mem_append.1 ht with h | h
  ·exact k1 t h
  ·exact capL_all false k3 t h
 ·rcases List.mem_append.1 ht with h | h
  ·exact k2 t h
  ·exact capL_all true k3 t h
end
theorem crossV_le {p : Pl} {a b : V3} {k m n : Nat} (hp : p.le k) (ha : a.le m) (hb : b.le m) (h : 12 * (k+m+1)≤n) : (crossV p a b).le n:=by
 have h1:=rz_height hp ha (Nat.le_refl _)
 have h2:=rz_height hp hb (Nat.le_refl _)
 have h3:=rz_sub_le h1 h2 (Nat.le_refl _)
 have h4 : rz (p.height a / (p.height a - p.height b))≤_:=Nat.le_trans (rz_div _ _) (Nat.add_le_add h1 h3)
 exact V3.le_add ha (V3.le_smul (V3.le_sub hb ha (Nat.le_refl _)) h4 (Nat.le_refl _)) (by omega)
theorem parts_le {p : Pl} {L : List (Tr V3)} {k m n : Nat} (hp : p.le k) (hL : leT L m) (h : 12 * (k+m+1)≤n) : leT (dnL p L) n∧leT (upL p L) n∧(∀ e ∈ seL p L,e.1.le n∧e.2.le n)∧leT (underL p L) n∧leT (overL p L) n :=
 parts_all (R:=fun a=>a.le m) (P:=fun a=>a.le n) (fun a ha=>ha.mono (by omega)) (fun a b ha hb=>crossV_le hp ha hb h) hL
/-! ### How many -/
theorem dnL_len (p : Pl) (L : List (Tr V3)) : (dnL p L).length≤2 * L.length∧(upL p L).length≤2 * L.length∧(seL p L).length≤L.length:=by
 have k : ∀ t,(dnT p t).length≤2∧(upT p t).length≤2∧(seT p t).length≤1:=fun t=>by
  have he : ∀ a b c f,(edgeA p a b c f).length≤1:=fun a b c f=>edge_len p a b c f
  unfold dnT upT seT
  cases upP p t.a<;>cases upP p t.b<;>cases upP p t.c<;>refine ⟨?_, ?_, ?_⟩<;>first | exact he _ _ _ _ | (simp [rest]; done)
 induction L with
 | nil=>exact ⟨Nat.le_refl _,Nat.le_refl _,Nat.le_refl _⟩
 | cons t L ih =>
  unfold dnL upL seL at *
  rw [List.flatMap_cons,List.flatMap_cons,List.flatMap_cons,List.length_append,List.length_append,List.length_append,List.length_cons]
  have:=k t
  omega
theorem capL_len (s : List (V3 × V3)) (f : Bool) : (capL s f).length≤s.length:=by
 have k : ∀ (o : V3) (l : List (V3 × V3)),(l.flatMap (capX o f)).length≤l.length:=fun o l=>by
  induction l with
  | nil=>exact Nat.le_refl _
  | cons e l ih =>
   rw [List.flatMap_cons,List.length_append,List.length_cons]
   have : (capX o f e).length≤1:=by unfold capX; split<;>simp
   omega
 cases s with
 | nil=>exact Nat.le_refl _
 | cons x s=>exact k x.1 (x :: s)
theorem parts_len (p : Pl) (L : List (Tr V3)) : (underL p L).length≤3 * L.length∧(overL p L).length≤3 * L.length:=by
 obtain ⟨h1,h2,h3⟩:=dnL_len p L
 have h4:=capL_len (seL p L) false
 have h5:=capL_len (seL p L) true
 unfold underL overL
 rw [List.length_append,List.length_append]
 omega
/-! ### The caps, as texts -/
theorem capO_txt (o : V3) (e : V3 × V3) : capO (txv o) (txe e)=(capX o false e).map txt:=by
 unfold capO capX txe
 have q : ∀ a b : V3,(txv a=txv b)↔a=b:=fun a b=>⟨fun h=>txv_apart a b h,fun h=>by rw [h]⟩
 by_cases h1 : e.1=o
 ·rw [if_pos ((q _ _).2 h1),if_pos (.inl h1)]; rfl
 ·rw [if_neg (fun h=>h1 ((q _ _).1 h))]
  by_cases h2 : e.2=o
  ·rw [if_pos ((q _ _).2 h2),if_pos (.inr h2)]; rfl
  ·rw [if_neg (fun h=>h2 ((q _ _).1 h)),if_neg (by rintro (h | h)<;>contradiction)]; rfl
theorem capS_txt (s : List (V3 × V3)) : capS (s.map txe)=(capL s false).map txt:=by
 have k : ∀ (o : V3) (l : List (V3 × V3)),(l.map txe).flatMap (capO (txv o))=(l.flatMap (capX o false)).map txt:=fun o l=>by
  induction l with
  | nil=>rfl
  | cons e l ih=>rw [List.map_cons,List.flatMap_cons,List.flatMap_cons,List.map_append,ih,capO_txt]
 cases s with
 | nil=>rfl
 | cons x s=>exact k x.1 (x :: s)
theorem capL_turn (s : List (V3 × V3)) : capL s true=(capL s false).map Tr.turn:=by
 have k : ∀ (o : V3) (l : List (V3 × V3)),l.flatMap (capX o true)=(l.flatMap (capX o false)).map Tr.turn:=fun o l=>by
  induction l with
  | nil=>rfl
  | cons e l ih =>
   rw [List.flatMap_cons,List.flatMap_cons,List.map_append,ih]
   congr 1
   unfold capX
   by_cases h : e.1=o∨e.2=o
   ·rw [if_pos h,if_pos h]; rfl
   ·rw [if_neg h,if_neg h]; rfl
 cases s with
 | nil=>rfl
 | cons x s=>exact k x.1 (x :: s)
theorem under_txt (p : Pl) (L : List (Tr V3)) : (underL p L).map txt=(dnL p L).map txt++capS ((seL p L).map txe):=by
 unfold underL
 rw [List.map_append,capS_txt]
theorem over_txt (p : Pl) (L : List (Tr V3)) : (overL p L).map txt=(upL p L).map txt++(capS ((seL p L).map txe)).map Tr.turn:=by
 unfold overL
 rw [List.map_append,capS_txt,capL_turn,List.map_map,List.map_map]
 rfl
theorem plS_txt {p : Pl} (h0 : p.n≠V3.zero) : plS (txv p.n) (rtx p.c)=0:=by
 rcases plS_cases (txv p.n) (rtx p.c) with h | ⟨q,h1,h2,h3,h⟩
 ·unfold plS at h
  by_cases hb : (isVec (txv p.n) && isRat (rtx p.c))=true
  ·rw [if_pos hb,vOf_txv] at h
   exact absurd (h.symm.trans (plc_ne h0)) (by decide)
  ·exact absurd (Bool.and_eq_true_iff.2 ⟨isVec_txv _,isRat_iff.2 ⟨_,rfl⟩⟩) hb
 ·exact h
/-! ### The contracts -/
theorem ck_ok {p : Pl} {L : List (Tr V3)} (h0 : p.n≠V3.zero) (hp : p.le 100000) (hL : leT L 100000) (hk : chkC (L.map txt)=0) (v : Value) (w : World) (hB : Bw w) (hv : Ts w v (L.map txt)) :
  Calls Tryz.prog 46 #[v,.agg #[.string (rtx p.n.x),.string (rtx p.n.y),.string (rtx p.n.z),.string (rtx p.c)]] w fun e w'=>e=.returned (.int .i64 0)∧Below w.heap.size w w':=by
 have hn:=txv_le hp.1
 have hc:=rtx_size p.c
 have hc2:=hp.2
 have:=ccheck_walk v (L.map txt) (txv p.n) (rtx p.c) w hB hv (tle_txt hL (by omega)) ⟨by have:=hn.1; omega,by have:=hn.2.1; omega,by have:=hn.2.2; omega⟩ (by omega)
 unfold chkS at this
 rw [if_pos hk,plS_txt h0] at this
 exact this
section
variable {p : Pl} {L : List (Tr V3)} (h0 : p.n≠V3.zero) (hp : p.le 100000) (hL : leT L 100000) (hk : chkC (L.map txt)=0) (v : Value) (w : World) (hB : Bw w) (hv : Ts w v (L.map txt))
include h0 hp hL hk hB hv
theorem cBelow_ok (hS : (underL p L).length≤512) : Calls Tryz.prog 12 #[v,PV p] w (SolR ((underL p L).map txt) w):=by
 obtain ⟨A,cap,rfl, -, -, -⟩:=hv.open
 have hl:=(chkC_zero hk).1
 rw [List.length_map] at hl hv ⊢
 obtain ⟨h1,h2,h3⟩:=dnL_len p L
 have h4:=capL_len (seL p L) false
 rw [under_txt,PV_eq]
 refine cBelow_at A L.length cap (L.map txt) _ _ _ _ w hB hv ((dnL p L).map txt) ((upL p L).map txt) ((seL p L).map txe) (by rw [List.length_map]; omega) (by rw [List.length_map]; omega) (by rw [List.length_map]; omega) (by rw [capS_txt,List.length_map]; omega) ?_ (fun w hB hv=>ck_ok h0 hp hL hk _ w hB hv)
  (fun w hB hv=>(csplit_walk L p h0 hp hL (by omega) A cap w hB hv).mono fun _ _ h=>h.texts)
 rw [capS_txt,List.length_map,List.length_map]
 unfold underL at hS
 rw [List.length_append] at hS
 exact hS
theorem cAbove_ok (hS : (overL p L).length≤512) : Calls Tryz.prog 15 #[v,PV p] w (SolR ((overL p L).map txt) w):=by
 obtain ⟨A,cap,rfl, -, -, -⟩:=hv.open
 have hl:=(chkC_zero hk).1
 rw [List.length_map] at hl hv ⊢
 obtain ⟨h1,h2,h3⟩:=dnL_len p L
 have h4:=capL_len (seL p L) false
 rw [over_txt,PV_eq]
 refine cAbove_at A L.length cap (L.map txt) _ _ _ _ w hB hv ((dnL p L).map txt) ((upL p L).map txt) ((seL p L).map txe) (by rw [List.length_map]; omega) (by rw [List.length_map]; omega) (by rw [List.length_map]; omega) (by rw [capS_txt,List.length_map]; omega) ?_ (fun w hB hv=>ck_ok h0 hp hL hk _ w hB hv)
  (fun w hB hv=>(csplit_walk L p h0 hp hL (by omega) A cap w hB hv).mono fun _ _ h=>h.texts)
 rw [capS_txt,List.length_map,List.length_map]
 unfold overL at hS
 rw [List.length_append,capL_turn,List.length_map] at hS
 exact hS
theorem cSection_ok : Calls Tryz.prog 17 #[v,PV p] w (SegR ((seL p L).map txe) w):=by
 obtain ⟨A,cap,rfl, -, -, -⟩:=hv.open
 have hl:=(chkC_zero hk).1
 rw [List.length_map] at hl hv ⊢
 obtain ⟨h1,h2,h3⟩:=dnL_len p L
 rw [PV_eq]
 exact cSection_at A L.length cap (L.map txt) _ _ _ _ w hB hv ((dnL p L).map txt) ((upL p L).map txt) ((seL p L).map txe) (by rw [List.length_map]; omega) (by rw [List.length_map]; omega) (by rw [List.length_map]; omega) (fun w hB hv=>ck_ok h0 hp hL hk _ w hB hv)
  (fun w hB hv=>(csplit_walk L p h0 hp hL (by omega) A cap w hB hv).mono fun _ _ h=>h.texts)
end
end Go.Proofs.YtopfedbhkfdjkaaGreatDoor


/- clip: Between, Slices: the walks. -/
namespace Go.Proofs.YtopfedbhkfdjkaaGreatDoor
open Go Go.RowKit
set_option maxHeartbeats 2000000 in
theorem cBetween_at (A : Option Addr) (n cap : Nat) (l : List TV) (x1 x2 x3 a b : ByteArray) (w : World) (hB : Bw w) (hv : Ts w (.slice A n cap) l) (D1 D2 : List TV)
  (h1 : ∀ w,Bw w→Ts w (.slice A n cap) l→Calls Tryz.prog 46 #[.slice A n cap,.agg #[.string x1,.string x2,.string x3,.string a]] w fun e w'=>e=.returned (.int .i64 0)∧Below w.heap.size w w')
  (h2 : ∀ w,Bw w→Ts w (.slice A n cap) l→Calls Tryz.prog 46 #[.slice A n cap,.agg #[.string x1,.string x2,.string x3,.string b]] w fun e w'=>e=.returned (.int .i64 0)∧Below w.heap.size w w')
  (h3 : ∀ w,Bw w→Calls Tryz.prog 57 #[.string a,.string b] w fun e w'=>e=.returned (.tuple #[.int .i64 (-1),.int .i64 0])∧Below w.heap.size w w')
  (h4 : ∀ w,Bw w→Ts w (.slice A n cap) l→Calls Tryz.prog 12 #[.slice A n cap,.agg #[.string x1,.string x2,.string x3,.string b]] w (SolR D1 w))
  (h5 : ∀ v w,Bw w→Ts w v D1→Calls Tryz.prog 15 #[v,.agg #[.string x1,.string x2,.string x3,.string a]] w (SolR D2 w)) :
  Calls Tryz.prog 23 #[.slice A n cap,.agg #[.string x1,.string x2,.string x3],.string a,.string b] w (SolR D2 w):=by
 have HV:=Lib.hid hv
 clear hv
 have H1:=Lib.hid h1
 clear h1
 have H2:=Lib.hid h2
 clear h2
 have H3:=Lib.hid h3
 clear h3
 have H4:=Lib.hid h4
 clear h4
 have H5:=Lib.hid h5
 clear h5
 go_enter Tryz.func23,Tryz.ntmps23
 go_wp2_with fail
 refine wp_loop_rounds 3 ?_
 rw [rounds_succ]
 go_wp2_with fail
 refine (H1.out _ (hB.below bel) (HV.out.below bel)).mono ?_
 rintro e w1 ⟨rfl,g1⟩
 have KN1 : Bk w1 w.heap.size [.string x1,.string x2,.string x3]:=Bk.below bkk g1
 have KL1 : Bk w1 (w.heap.size+1) [.string a,.string b]:=Bk.below bkk g1
 have BB1:=bn (w:=w) bel g1
 clear g1
 obtain ⟨a0,a1,a2, -, -, -⟩:=KN1.c3
 obtain ⟨b0,b1, -, -⟩:=KL1.c2
 have hz1:=KL1.lt
 go_wp2_with fail
 rw [rounds_succ]
 go_wp2_with fail
 refine (H2.out _ (hB.below BB1) (HV.out.below BB1)).mono ?_
 rintro e w2 ⟨rfl,g2⟩
 have KN2:=KN1.below g2
 have KL2:=KL1.below g2
 have BB2 : Below w.heap.size w w2:=bn BB1 g2
 clear g2 a0 a1 a2 b0 b1 KN1 KL1 hz1
 obtain ⟨a0,a1,a2, -, -, -⟩:=KN2.c3
 obtain ⟨b0,b1, -, -⟩:=KL2.c2
 have hz1:=KL2.lt
 go_wp2_with fail
 rw [rounds_succ]
 go_wp2_with fail
 refine (H3.out _ (hB.below BB2)).mono ?_
 rintro e w3 ⟨rfl,g3⟩
 have KN3:=KN2.below g3
 have BB3 : Below w.heap.size w w3:=bn BB2 g3
 clear g3 a0 a1 a2 b0 b1 KN2 KL2 hz1
 obtain ⟨a0,a1,a2, -, -, -⟩:=KN3.c3
 have hz1:=KN3.lt
 go_wp2_with fail
 refine (H4.out _ (hB.below BB3) (HV.out.below BB3)).mono ?_
 rintro e w4 ⟨A4,c4,rfl,t4,g4⟩
 have KN4:=KN3.below g4
 have BB4 : Below w.heap.size w w4:=bn BB3 g4
 have HT4:=Lib.hid t4
 obtain ⟨n4,hn4⟩ : ∃ x,x=D1.length:=⟨_,rfl⟩
 rw [← hn4] at HT4 ⊢
 clear g4 a0 a1 a2 KN3 hz1 t4 hn4
 obtain ⟨a0,a1,a2, -, -, -⟩:=KN4.c3
 have hz1:=KN4.lt
 go_wp2_with fail
 refine (H5.out _ _ (hB.below BB4) HT4.out).mono ?_
 rintro e w5 ⟨A5,c5,rfl,t5,g5⟩
 have BB5 : Below w.heap.size w w5:=bn BB4 g5
 have HT5:=Lib.hid t5
 obtain ⟨n5,hn5⟩ : ∃ x,x=D2.length:=⟨_,rfl⟩
 have HN5:=Lib.hid hn5
 rw [← hn5] at HT5 ⊢
 clear g5 a0 a1 a2 KN4 hz1 t5 hn5
 go_wp2
 go_ret2
 rw [HN5.out] at HT5 ⊢
 exact ⟨_,_,rfl,HT5.out,BB5⟩
end Go.Proofs.YtopfedbhkfdjkaaGreatDoor


/- clip: Slices: the walk. -/
namespace Go.Proofs.YtopfedbhkfdjkaaGreatDoor
open Go Go.RowKit
def Rs (w : World) (v : Value) (l : List ByteArray) : Prop:=Rd w 1 v l.length (l.map Value.string)
theorem Rs.below {w w1 : World} {v : Value} {l : List ByteArray} (h : Rs w v l) (hb : Below w.heap.size w w1) : Rs w1 v l:=Rd.below h hb
theorem rs_nth {w : World} {A : Option Addr} {n cap k : Nat} {l : List ByteArray} {c : ByteArray} (h : Rs w (.slice A n cap) l) (hg : l[k]?=some c) :
  ∃ b off,A=some ⟨b,off,none⟩∧w.cell? ⟨b,off+k,none⟩=some (.string c):=by
 obtain ⟨_,A',cap',hv,hn,hc,h⟩:=h
 cases hv
 obtain ⟨b,off,hA,hcell⟩:=h (by have:=(List.getElem?_eq_some_iff.1 hg).1; omega)
 exact ⟨b,off,hA,hcell k _ (by rw [List.getElem?_map,hg]; rfl)⟩
theorem Rs.len {w : World} {A : Option Addr} {n cap : Nat} {l : List ByteArray} (h : Rs w (.slice A n cap) l) : n=l.length:=by
 obtain ⟨_,A',cap',hv,hn,hc,h⟩:=h
 cases hv
 rfl
theorem info_rat : (Tryz.prog.info? 24).map (fun i=>(i.zero,i.size,i.bytes))=some (some (.string ⟨#[]⟩),1,16):=by kernel_rfl
theorem info_segs : (Tryz.prog.info? 37).map (fun i=>(i.zero,i.size,i.bytes))=some (some (.slice none 0 0),1,24):=by kernel_rfl
theorem one_strings (l : List ByteArray) : ∀ y,y ∈ l.map Value.string→y.oneCell'=true:=by
 intro y hy
 obtain ⟨s,_,rfl⟩:=List.mem_map.1 hy
 rfl
theorem own_str (W : World) (s : ByteArray) : (W.alloc (.cells #[.string s] 24)).ownsRow W.heap.size 24 1 (.slice (some ⟨W.heap.size,0,none⟩) 1 1) 1 [.string s]:=by
 have:=World.ownsRow_lit (base:=W.heap.size) (e:=24) (size:=1) W #[.string s] 1 (Nat.le_refl _) (by unfold maxLen; omega) rfl
 simpa using this
theorem make_segs (x : Int) (c : Nat) (hx : x=c) (hc : c≤1000000) (W : World) :
  (Instr.makeSlice 46 (.int .i64 0) (.int .i64 x)).run Tryz.prog W=.ok (.slice (some ⟨W.heap.size,0,none⟩) 0 c) (W.alloc (.cells (madeCells #[.slice none 0 0] c) 37)):=by
 subst hx
 obtain ⟨i0,hi,hzz⟩:=Option.map_eq_some_iff.1 info_segs
 simp only [Prod.mk.injEq] at hzz
 obtain ⟨hz0,hz1,hz2⟩:=hzz
 have h:=run_make (P:=Tryz.prog) W 46 37 i0 _ Tryz.underlying46 hi hz0 .i64 .i64 0 c (by omega) (by omega) (by rw [hz2]; omega) (by omega)
 rw [h,hz1]
 simp [Value.cells]
def Secs (w : World) (B : Nat) (vs : List Value) (Es : List (List (SV × SV))) : Prop:=vs.length=Es.length∧∀ (i : Nat) (v : Value) (E : List (SV × SV)),vs[i]?=some v→Es[i]?=some E→w.ownsRow B 54 6 v E.length (sgs E)
theorem Secs.snoc {w : World} {B : Nat} {vs : List Value} {Es : List (List (SV × SV))} (h : Secs w B vs Es) {v : Value} {E : List (SV × SV)} (hv : w.ownsRow B 54 6 v E.length (sgs E)) : Secs w B (vs++[v]) (Es++[E]):=by
 refine ⟨by rw [List.length_append,List.length_append,h.1]; rfl,fun i u G hu hG=>?_⟩
 rw [List.getElem?_append] at hu hG
 by_cases hi : i<vs.length
 ·rw [if_pos hi] at hu
  rw [if_pos (by rw [← h.1]; exact hi)] at hG
  exact h.2 i u G hu hG
 ·rw [if_neg hi] at hu
  rw [if_neg (by rw [← h.1]; exact hi),← h.1] at hG
  obtain ⟨j,hj⟩ : ∃ j,j=i - vs.length:=⟨_,rfl⟩
  rw [← hj] at hu hG
  cases j with
  | zero=>simp at hu hG; subst hu hG; exact hv
  | succ j=>simp at hu
theorem Secs.below {w w1 : World} {B : Nat} {vs : List Value} {Es : List (List (SV × SV))} (h : Secs w B vs Es) (g : Below w.heap.size w w1) : Secs w1 B vs Es :=
 ⟨h.1,fun i v E hv hE=>own_below (h.2 i v E hv hE) g⟩
theorem Secs.grown {w w1 : World} {B B' sz n : Nat} {vs us : List Value} {Es : List (List (SV × SV))} {u : Value} (h : Secs w B vs Es) (ho : w.ownsRow B' 37 sz u n us) (g : w.grownBy w1 u.ownBlock) : Secs w1 B vs Es:=by
 refine ⟨h.1,fun i v E hv hE=>own_same (h.2 i v E hv hE) fun k hk=>?_⟩
 obtain ⟨cur,h1, -,h3⟩:=own_cells' (h.2 i v E hv hE) hk
 refine g.block k h3 (fun e=>?_)
 obtain ⟨cur2,h2, -⟩:=own_cells' ho e.symm
 rw [h1] at h2
 cases h2
def SlR (Es : List (List (SV × SV))) (w : World) (e : Ending) (w' : World) : Prop:=∃ A c vs,e=.returned (.tuple #[.slice A Es.length c,.int .i64 0])∧Rd w' 1 (.slice A Es.length c) Es.length vs∧vs.length=Es.length∧(∀ (i : Nat) (v : Value) (E : List (SV × SV)),vs[i]?=some v→Es[i]?=some E→Ss w' v E)∧Below w.heap.size w w'
set_option maxHeartbeats 4000000 in
set_option maxRecDepth 100000 in
theorem cSlices_at (A A2 : Option Addr) (n cap m cap2 : Nat) (l : List TV) (cs : List ByteArray) (x1 x2 x3 : ByteArray) (w : World) (hB : Bw w) (hv : Ts w (.slice A n cap) l) (hr : Rs w (.slice A2 m cap2) cs) (hm : m≤32) (h1 : ∀ w,Bw w→Ts w (.slice A n cap) l→Calls Tryz.prog 29 #[.slice A n cap] w fun e w'=>e=.returned (.int .i64 0)∧Below w.heap.size w w') (h2 : ∀ c ∈ (⟨#[48]⟩ :: cs : List ByteArray),∀ w,Bw w→Calls Tryz.prog 60 #[.agg #[.string x1,.string x2,.string x3,.string c]] w fun e w'=>e=.returned (.int .i64 0)∧Below w.heap.size w w') (D U : ByteArray→List TV) (E : ByteArray→List (SV × SV)) (h3 : ∀ c ∈ cs,∀ w,Bw w→Ts w (.slice A n cap) l→Calls Tryz.prog 47 #[.slice A n cap,.agg #[.string x1,.string x2,.string x3,.string c]] w (SpT (D c) (U c) (E c) w)) :
  Calls Tryz.prog 25 #[.slice A n cap,.agg #[.string x1,.string x2,.string x3],.slice A2 m cap2] w (SlR (cs.map E) w):=by
 have H2:=Lib.hid h2
 have H3:=Lib.hid h3
 clear h2 h3
 have HV:=Lib.hid hv
 have HR:=Lib.hid hr
 have H1:=Lib.hid h1
 clear hv h1
 have hmc:=hr.len
 have HM:=Lib.hid hmc
 clear hmc hr
 go_enter Tryz.func25,Tryz.ntmps25
 go_wp2_with fail
 refine (H1.out _ (hB.below bel) (HV.out.below bel)).mono ?_
 rintro e w1 ⟨rfl,g1⟩
 have KN1 : Bk w1 w.heap.size [.string x1,.string x2,.string x3]:=Bk.below bkk g1
 have BB1:=bn (w:=w) bel g1
 clear g1
 have hm2 : ¬ (32 : Int)<(m : Int):=by omega
 have hz0:=KN1.lt
 obtain ⟨W0,hW0⟩ : ∃ x,x=w1.alloc (.cells #[.string ⟨#[48]⟩] 24):=⟨_,rfl⟩
 have KN2 : Bk W0 w.heap.size [.string x1,.string x2,.string x3]:=by rw [hW0]; exact KN1.alloc _
 have HO0 : Hid (W0.ownsRow w1.heap.size 24 1 (.slice (some ⟨w1.heap.size,0,none⟩) 1 1) 1 [.string ⟨#[48]⟩]):=Lib.hid (by rw [hW0]; exact own_str w1 _)
 have hb0 : Below w1.heap.size w1 W0:=by rw [hW0]; exact ba (br _)
 have hz1 : w1.heap.size≤W0.heap.size:=hb0.size
 have HR0 : Hid (Rd W0 1 (.slice A2 m cap2) m (cs.map Value.string)):=Lib.hid (by have:=HR.out.below (BB1.trans (hb0.mono BB1.size)); rw [HM.out] at this ⊢; exact this)
 have HWE:=Lib.hid hW0
 have hws:=BB1.size
 obtain ⟨m1,hm1⟩ : ∃ x,x=m+1:=⟨_,rfl⟩
 have HM1:=Lib.hid hm1
 clear hW0 hm1
 go_wp2_with (at_builtin; rw [← HWE.out]; refine append_rd (w0:=w1) w1.heap.size rfl (.tmp 26) (.tmp 27) 42 24 _ 1 16 rfl Tryz.underlying42 info_rat rfl (by omega) (by omega) _ 1 m [.string ⟨#[48]⟩] (cs.map Value.string) rfl _ rfl HR0.out (one_strings _) HO0.out hb0 hz1 (by omega) ?_; intro v2 w2 hown2 hb2 hg2; rw [Nat.add_comm 1 m,← HM1.out] at hown2; obtain ⟨A4,c4,rfl⟩:=own_sl hown2)
 have KN3 : Bk w2 w.heap.size [.string x1,.string x2,.string x3]:=Bk.blw KN1 hz0 hb2
 have BB2 : Below w.heap.size w w2:=bn BB1 hb2
 have HC0 : Hid (Rs w2 (.slice A4 m1 c4) (⟨#[48]⟩ :: cs)):=Lib.hid (by
  unfold Rs
  have:=Rd.own hown2
  rw [List.length_cons,← HM.out,← HM1.out]
  exact this)
 have HL0:=Lib.hid (fun k (hk : k<m1)=>(show ∃ c,(⟨#[48]⟩ :: cs : List ByteArray)[k]?=some c from ⟨_,List.getElem?_eq_getElem (by rw [List.length_cons,← HM.out,← HM1.out]; exact hk)⟩))
 have hm1l : m1≤33:=by have:=HM1.out; omega
 have hz2:=KN3.lt
 have hw12:=hb2.size
 clear hown2 hg2 HO0 hb0 HWE HR0 KN2 hb2 hz1
 go_wp2_with fail
 go_loopw [30] (fun ii wr=>∃ k : Nat,k≤m1∧ii=.int .i64 k∧Below w2.heap.size w2 wr) (fun ii _=>m1 - (intOf ii).toNat)
 case atStart=>exact ⟨0,Nat.zero_le _,rfl,Below.refl _ _⟩
 case round =>
  obtain ⟨k,hk,rfl,hb⟩:=hrel
  by_cases hlt : k<m1
  ·obtain ⟨c,hg⟩:=HL0.out k hlt
   obtain ⟨b,off,hA,c0⟩:=rs_nth (HC0.out.below hb) hg
   subst hA
   have KNr:=KN3.below hb
   obtain ⟨a0,a1,a2, -, -, -⟩:=KNr.c3
   have hzr:=KNr.lt
   have hbl:=World.block_lt_of_cell? wr _ c0
   have hmem:=List.mem_of_getElem? hg
   have hk0 : (0 : Int)≤(k : Int):=by omega
   have hkn : (k : Int)<(m1 : Int):=by omega
   have BBr : Below w.heap.size w wr:=bn BB2 hb
   have HP:=Lib.hid (H2.out c hmem)
   clear hg hmem
   go_wp2_with fail
   refine (HP.out _ (hB.below BBr)).mono ?_
   rintro e w3 ⟨rfl,g3⟩
   have hb3 : Below w2.heap.size w2 w3:=bn hb g3
   clear g3 c0 a0 a1 a2
   go_wp2
   go_roundw
   case rel=>exact ⟨k+1,by omega,by go_num,hb3⟩
   case measure=>simp [intOf]; omega
  ·obtain rfl : k=m1:=by omega
   obtain ⟨w3,hw3⟩ : ∃ x,x=wr:=⟨_,rfl⟩
   subst hw3
   have BB3 : Below w.heap.size w w3:=bn BB2 hb
   have KN4:=KN3.below hb
   have hmk:=fun W=>make_segs (m : Int) m rfl (by omega) W
   have hz3:=KN4.lt
   have hw3s:=BB3.size
   clear hb HC0 HL0 H2 KN3 hz2
   go_wp2_with fail
   have HO4:=Lib.hid (World.ownsRow_made (base:=w3.heap.size) (e:=37) (size:=1) w3 (madeCells #[.slice none 0 0] m) m (Nat.le_refl _) (by unfold maxLen; omega) (by rw [size_madeCells,Nat.mul_one]))
   obtain ⟨w4,hw4⟩ : ∃ x,x=w3.alloc (.cells (madeCells #[.slice none 0 0] m) 37):=⟨_,rfl⟩
   rw [← hw4] at HO4 ⊢
   have BB4 : Below w.heap.size w w4:=by rw [hw4]; exact ba BB3
   have KN5 : Bk w4 w.heap.size [.string x1,.string x2,.string x3]:=by rw [hw4]; exact KN4.alloc _
   have hz5 : w3.heap.size≤w4.heap.size:=by rw [hw4]; simp
   have HL1:=Lib.hid (fun k (hk : k<m)=>(show ∃ c,cs[k]?=some c from ⟨_,List.getElem?_eq_getElem (by rw [← HM.out]; exact hk)⟩))
   have HTE:=Lib.hid (show cs.take m=cs from by rw [HM.out]; exact List.take_length)
   have hb34 : Below w3.heap.size w3 w4:=by rw [hw4]; exact ba (br _)
   clear hw4 KN4 hmk
   go_wp2_with fail
   go_loopw [12,47] (fun ov ii wr=>∃ (k : Nat) (vs : List Value),k≤m∧ii=.int .i64 k∧Hid (wr.ownsRow w3.heap.size 37 1 ov k vs)∧Hid (Secs wr w.heap.size vs ((cs.take k).map E))∧Hid (Bk wr w.heap.size [.string x1,.string x2,.string x3])∧Below w3.heap.size w3 wr) (fun _ ii _=>m - (intOf ii).toNat)
   case atStart=>exact ⟨0,[],Nat.zero_le _,rfl,HO4,Lib.hid ⟨rfl,fun i v E hv=>by simp at hv⟩,Lib.hid KN5,hb34⟩
   case round =>
    obtain ⟨k,vs,hk,rfl,hown,hsec,hkn,hb⟩:=hrel
    have BBr : Below w.heap.size w wr:=bn BB3 hb
    have hsz:=hb.size
    obtain ⟨A5,c5,rfl⟩:=own_sl hown.out
    by_cases hlt : k<m
    ·obtain ⟨c,hg⟩:=HL1.out k hlt
     obtain ⟨b2,off2,hA,c0⟩:=rs_nth (HR.out.below BBr) hg
     subst hA
     obtain ⟨a0,a1,a2, -, -, -⟩:=hkn.out.c3
     have hzr:=hkn.out.lt
     have hbl:=World.block_lt_of_cell? wr _ c0
     have HSP:=Lib.hid (H3.out c (List.mem_of_getElem? hg))
     have HT:=Lib.hid (show (cs.take (k+1)).map E=(cs.take k).map E++[E c] from by rw [List.take_add_one,hg,List.map_append]; rfl)
     have hk0 : (0 : Int)≤(k : Int):=by omega
     have hkm : (k : Int)<(m : Int):=by omega
     clear hg
     go_wp2_with fail
     refine (HSP.out _ (hB.below BBr) (HV.out.below BBr)).mono ?_
     rintro e w5 ⟨v0,v1,v2,rfl,r0,r1,r2,g5⟩
     obtain ⟨A6,c6,rfl⟩:=own_sl r2
     obtain ⟨ne,hne⟩ : ∃ x,x=(E c).length:=⟨_,rfl⟩
     have r3:=own_base r2 BBr.size
     have hsec5:=((hsec.out.below g5).snoc r3).below (w1:=w5.alloc (.cells #[.slice A6 (E c).length c6] 37)) (ba (br _))
     have hb5 : Below w3.heap.size w3 (w5.alloc (.cells #[.slice A6 (E c).length c6] 37)):=ba (bn hb g5)
     have ho5:=(own_below hown.out g5).alloc (.cells #[.slice A6 (E c).length c6] 37)
     have g6 : Below wr.heap.size wr (w5.alloc (.cells #[.slice A6 (E c).length c6] 37)):=ba g5
     rw [← hne] at hsec5 hb5 ho5 g6 ⊢
     have HS5:=Lib.hid hsec5
     have HB5:=Lib.hid hb5
     have HO5:=Lib.hid ho5
     have HG6:=Lib.hid g6
     have hw53 : w3.heap.size≤w5.heap.size:=Nat.le_trans hsz g5.size
     clear r0 r1 r2 r3 hne g5 hsec5 hb5 ho5 g6 c0 a0 a1 a2
     go_wp2_with (at_builtin; refine append_row (X:=w5.alloc (.cells #[.slice A6 ne c6] 37)) w3.heap.size rfl (.tmp 60) (.tmp 62) 46 37 _ 1 24 rfl Tryz.underlying46 info_segs rfl (by omega) (by omega) (.slice A5 k c5) k 1 vs [.slice A6 ne c6] rfl w5.heap.size rfl (by omega) rfl (by simp [Value.oneCell']) HO5.out (heap_new _ _) (by (try simp)<;>omega) (by omega) ?_; intro v7 w7 hown7 hg7 hat7; replace hown7:=Lib.hid hown7; replace hg7:=Lib.hid hg7; clear hat7)
     have HS7 : Hid (Secs w7 w.heap.size (vs++[.slice A6 ne c6]) ((cs.take (k+1)).map E)):=Lib.hid (by
      rw [HT.out]
      exact HS5.out.grown HO5.out hg7.out)
     have HK7:=Lib.hid (bk_two hkn.out HG6.out hg7.out (fun q e=>by have:=own_base_le hown.out q e; omega))
     have HB7 : Below w3.heap.size w3 w7:=HB5.out.grown hg7.out (by simp; omega) (fun q e=>own_base_le hown.out q e)
     clear hg7
     go_wp2
     go_roundw
     case rel=>exact ⟨k+1,_,by omega,by go_num,hown7,HS7,HK7,HB7⟩
     case measure=>simp [intOf]; omega
    ·obtain rfl : k=m:=by omega
     rw [HTE.out] at hsec
     have hl : k=(cs.map E).length:=by rw [List.length_map,HM.out]
     have HLN:=Lib.hid hl
     clear hl
     go_wp2
     go_ret2
     rw [HLN.out] at hown ⊢
     exact ⟨_,_,vs,rfl,Rd.own hown.out,hsec.out.1,fun i v E hv hE=>Ss.own (hsec.out.2 i v E hv hE),BBr⟩
end Go.Proofs.YtopfedbhkfdjkaaGreatDoor


/- law of chapter 13: vec, awake (the walk). -/
namespace Go.Proofs.YtopfedbhkfdjkaaGreatDoor
open Go Go.RowKit
theorem vec13_walk (x y z : ByteArray) (w : World) :
  Calls Tryz.prog 44 #[.string x,.string y,.string z] w fun e w'=>e=.returned (.agg #[.string x,.string y,.string z])∧Below w.heap.size w w':=by
 go_enter Tryz.func44,Tryz.ntmps44
 go_wp2
 refine bodyPost_ret (v:=.agg #[.string x,.string y,.string z]) (by simp [results,Tryz.results44,go_sem, *]) rfl ⟨(by first | rfl | rw [hI]),bel⟩
set_option maxHeartbeats 4000000 in
set_option maxRecDepth 100000 in
theorem awake13_at (b d u m : List TV) (e1 e2 : List (SV × SV)) (w : World) (hB : Bw w) (n12 : b.length=12) (nd : 0<d.length) (nu : 0<u.length) (nm : 0<m.length) (n1 : e1.length=8) (n2 : e2.length=8)
  (h1 : ∀ w,Bw w→Calls Tryz.prog 43 #[.agg #[.string ⟨#[48]⟩,.string ⟨#[48]⟩,.string ⟨#[48]⟩],.agg #[.string ⟨#[50]⟩,.string ⟨#[49]⟩,.string ⟨#[49]⟩]] w (Ret fun r w'=>(∃ u,r=.tuple #[u,.int .i64 0]∧Ts w' u b)∧Below w.heap.size w w'))
  (h2 : ∀ v w,Bw w→Ts w v b→Calls Tryz.prog 12 #[v,.agg #[.string ⟨#[48]⟩,.string ⟨#[48]⟩,.string ⟨#[49]⟩,.string ⟨#[49,47,50]⟩]] w (SolR d w))
  (h3 : ∀ v w,Bw w→Ts w v b→Calls Tryz.prog 15 #[v,.agg #[.string ⟨#[48]⟩,.string ⟨#[48]⟩,.string ⟨#[49]⟩,.string ⟨#[49,47,50]⟩]] w (SolR u w))
  (h4 : ∀ v w,Bw w→Ts w v b→Calls Tryz.prog 17 #[v,.agg #[.string ⟨#[48]⟩,.string ⟨#[48]⟩,.string ⟨#[49]⟩,.string ⟨#[49,47,50]⟩]] w (SegR e1 w))
  (h5 : ∀ v w,Bw w→Ts w v b→Calls Tryz.prog 12 #[v,.agg #[.string ⟨#[48]⟩,.string ⟨#[48]⟩,.string ⟨#[49]⟩,.string ⟨#[49]⟩]] w (SolR b w))
  (h6 : ∀ v w,Bw w→Ts w v b→Calls Tryz.prog 17 #[v,.agg #[.string ⟨#[48]⟩,.string ⟨#[48]⟩,.string ⟨#[49]⟩,.string ⟨#[49]⟩]] w (SegR [] w))
  (h7 : ∀ v w,Bw w→Ts w v b→Calls Tryz.prog 23 #[v,.agg #[.string ⟨#[49]⟩,.string ⟨#[48]⟩,.string ⟨#[48]⟩],.string ⟨#[49,47,50]⟩,.string ⟨#[49]⟩] w (SolR m w))
  (h8 : ∀ v u w,Bw w→Ts w v b→Rs w u [⟨#[49]⟩]→Calls Tryz.prog 25 #[v,.agg #[.string ⟨#[49]⟩,.string ⟨#[48]⟩,.string ⟨#[48]⟩],u] w (SlR [e2] w))
  (h9 : ∀ v w,Bw w→Ts w v d→Calls Tryz.prog 29 #[v] w fun e w'=>e=.returned (.int .i64 0)∧Below w.heap.size w w')
  (h10 : ∀ v w,Bw w→Ts w v u→Calls Tryz.prog 29 #[v] w fun e w'=>e=.returned (.int .i64 0)∧Below w.heap.size w w')
  (h11 : ∀ v1 v2 w,Ts w v1 b→Ts w v2 b→Calls Tryz.prog 19 #[v1,v2] w fun e w'=>e=.returned (.bool true)∧Below w.heap.size w w') :
  Calls Tryz.prog 10 #[] w fun e w'=>e=.returned (.bool true)∧Below w.heap.size w w':=by
 have H1:=Lib.hid h1
 have H2:=Lib.hid h2
 have H3:=Lib.hid h3
 have H4:=Lib.hid h4
 have H5:=Lib.hid h5
 have H6:=Lib.hid h6
 have H7:=Lib.hid h7
 have H8:=Lib.hid h8
 have H9:=Lib.hid h9
 have H10:=Lib.hid h10
 have H11:=Lib.hid h11
 clear h1 h2 h3 h4 h5 h6 h7 h8 h9 h10 h11
 obtain ⟨ld,hld⟩ : ∃ x,x=d.length:=⟨_,rfl⟩
 obtain ⟨lu,hlu⟩ : ∃ x,x=u.length:=⟨_,rfl⟩
 obtain ⟨lm,hlm⟩ : ∃ x,x=m.length:=⟨_,rfl⟩
 have qd : (0 : Int)<(ld : Int):=by omega
 have qu : (0 : Int)<(lu : Int):=by omega
 have qm : (0 : Int)<(lm : Int):=by omega
 have LD:=Lib.hid hld
 have LU:=Lib.hid hlu
 have LM:=Lib.hid hlm
 have N12:=Lib.hid n12
 have N1:=Lib.hid n1
 have N2:=Lib.hid n2
 clear n12 nd nu nm n1 n2 hld hlu hlm
 go_enter Tryz.func10,Tryz.ntmps10
 go_wp2_with fail
 refine (vec13_walk _ _ _ _).mono ?_
 rintro e w1 ⟨rfl,g1⟩
 have S1:=bn (w:=w) bel g1
 have B1 : Below w.heap.size w w1:=S1
 clear g1
 go_wp2_with fail
 refine (vec13_walk _ _ _ _).mono ?_
 rintro e w2 ⟨rfl,g2⟩
 have S2 : Below w1.heap.size w1 w2:=bn bel g2
 have B2 : Below w.heap.size w w2:=bn B1 S2
 clear g2 S2
 go_wp2_with fail
 refine (H1.out _ (hB.below bel)).mono ?_
 rintro e w3 ⟨_,rfl,⟨z,rfl,qb⟩,g3⟩
 have S3 : Below w2.heap.size w2 w3:=bn bel g3
 have B3 : Below w.heap.size w w3:=bn B2 S3
 clear g3 S3
 obtain ⟨Ab,cb,rfl, -, -, -⟩:=qb.open
 rw [N12.out] at qb ⊢
 have VB_:=Lib.hid qb
 clear qb
 go_wp2_with fail
 refine (vec13_walk _ _ _ _).mono ?_
 rintro e w4 ⟨rfl,g4⟩
 have S4 : Below w3.heap.size w3 w4:=bn bel g4
 replace VB_:=Lib.hid (VB_.out.below S4)
 have B4 : Below w.heap.size w w4:=bn B3 S4
 clear g4 S4
 go_wp2_with fail
 refine (H2.out _ _ (hB.below bel) (VB_.out.below bel)).mono ?_
 rintro e w5 ⟨AVD_,cVD_,rfl,qVD_,g5⟩
 have S5 : Below w4.heap.size w4 w5:=bn bel g5
 replace VB_:=Lib.hid (VB_.out.below S5)
 have c5_p_0:=bcv g5 w4.heap.size 0 (.string ⟨#[48]⟩)
 have c5_p_1:=bcv g5 w4.heap.size 1 (.string ⟨#[48]⟩)
 have c5_p_2:=bcv g5 w4.heap.size 2 (.string ⟨#[49]⟩)
 have c5_p_3:=bcv g5 w4.heap.size 3 (.string ⟨#[49,47,50]⟩)
 have z5_p : w4.heap.size<w5.heap.size:=World.block_lt_of_cell? _ _ c5_p_0
 have B5 : Below w.heap.size w w5:=bn B4 S5
 clear g5 S5
 rw [← LD.out] at qVD_ ⊢
 have VD_:=Lib.hid qVD_
 clear qVD_
 go_wp2_with fail
 refine (H3.out _ _ (hB.below bel) (VB_.out.below bel)).mono ?_
 rintro e w6 ⟨AVU_,cVU_,rfl,qVU_,g6⟩
 have S6 : Below w5.heap.size w5 w6:=bn bel g6
 replace VB_:=Lib.hid (VB_.out.below S6)
 replace VD_:=Lib.hid (VD_.out.below S6)
 have c6_p_0:=bcv g6 w4.heap.size 0 (.string ⟨#[48]⟩)
 have c6_p_1:=bcv g6 w4.heap.size 1 (.string ⟨#[48]⟩)
 have c6_p_2:=bcv g6 w4.heap.size 2 (.string ⟨#[49]⟩)
 have c6_p_3:=bcv g6 w4.heap.size 3 (.string ⟨#[49,47,50]⟩)
 have z6_p : w4.heap.size<w6.heap.size:=World.block_lt_of_cell? _ _ c6_p_0
 have B6 : Below w.heap.size w w6:=bn B5 S6
 clear g6 S6
 rw [← LU.out] at qVU_ ⊢
 have VU_:=Lib.hid qVU_
 clear qVU_
 go_wp2_with fail
 refine (H4.out _ _ (hB.below bel) (VB_.out.below bel)).mono ?_
 rintro e w7 ⟨AVE_,cVE_,rfl,qVE_,g7⟩
 have S7 : Below w6.heap.size w6 w7:=bn bel g7
 replace VB_:=Lib.hid (VB_.out.below S7)
 replace VD_:=Lib.hid (VD_.out.below S7)
 replace VU_:=Lib.hid (VU_.out.below S7)
 have c7_p_0:=bcv g7 w4.heap.size 0 (.string ⟨#[48]⟩)
 have c7_p_1:=bcv g7 w4.heap.size 1 (.string ⟨#[48]⟩)
 have c7_p_2:=bcv g7 w4.heap.size 2 (.string ⟨#[49]⟩)
 have c7_p_3:=bcv g7 w4.heap.size 3 (.string ⟨#[49,47,50]⟩)
 have z7_p : w4.heap.size<w7.heap.size:=World.block_lt_of_cell? _ _ c7_p_0
 have B7 : Below w.heap.size w w7:=bn B6 S7
 clear g7 S7
 rw [N1.out] at qVE_ ⊢
 have VE_:=Lib.hid qVE_
 clear qVE_
 clear VE_
 go_wp2_with fail
 refine (vec13_walk _ _ _ _).mono ?_
 rintro e w8 ⟨rfl,g8⟩
 have S8 : Below w7.heap.size w7 w8:=bn bel g8
 replace VB_:=Lib.hid (VB_.out.below S8)
 replace VD_:=Lib.hid (VD_.out.below S8)
 replace VU_:=Lib.hid (VU_.out.below S8)
 have c8_p_0:=bcv g8 w4.heap.size 0 (.string ⟨#[48]⟩)
 have c8_p_1:=bcv g8 w4.heap.size 1 (.string ⟨#[48]⟩)
 have c8_p_2:=bcv g8 w4.heap.size 2 (.string ⟨#[49]⟩)
 have c8_p_3:=bcv g8 w4.heap.size 3 (.string ⟨#[49,47,50]⟩)
 have z8_p : w4.heap.size<w8.heap.size:=World.block_lt_of_cell? _ _ c8_p_0
 have B8 : Below w.heap.size w w8:=bn B7 S8
 clear g8 S8
 go_wp2_with fail
 refine (H5.out _ _ (hB.below bel) (VB_.out.below bel)).mono ?_
 rintro e w9 ⟨AVT_,cVT_,rfl,qVT_,g9⟩
 have S9 : Below w8.heap.size w8 w9:=bn bel g9
 replace VB_:=Lib.hid (VB_.out.below S9)
 replace VD_:=Lib.hid (VD_.out.below S9)
 replace VU_:=Lib.hid (VU_.out.below S9)
 have c9_t_0:=bcv g9 w8.heap.size 0 (.string ⟨#[48]⟩)
 have c9_t_1:=bcv g9 w8.heap.size 1 (.string ⟨#[48]⟩)
 have c9_t_2:=bcv g9 w8.heap.size 2 (.string ⟨#[49]⟩)
 have c9_t_3:=bcv g9 w8.heap.size 3 (.string ⟨#[49]⟩)
 have z9_t : w8.heap.size<w9.heap.size:=World.block_lt_of_cell? _ _ c9_t_0
 have B9 : Below w.heap.size w w9:=bn B8 S9
 clear g9 S9
 rw [N12.out] at qVT_ ⊢
 have VT_:=Lib.hid qVT_
 clear qVT_
 go_wp2_with fail
 refine (H6.out _ _ (hB.below bel) (VB_.out.below bel)).mono ?_
 rintro e w10 ⟨Az,cz,rfl,qz,g10⟩
 have S10 : Below w9.heap.size w9 w10:=bn bel g10
 replace VB_:=Lib.hid (VB_.out.below S10)
 replace VD_:=Lib.hid (VD_.out.below S10)
 replace VU_:=Lib.hid (VU_.out.below S10)
 replace VT_:=Lib.hid (VT_.out.below S10)
 have c10_t_0:=bcv g10 w8.heap.size 0 (.string ⟨#[48]⟩)
 have c10_t_1:=bcv g10 w8.heap.size 1 (.string ⟨#[48]⟩)
 have c10_t_2:=bcv g10 w8.heap.size 2 (.string ⟨#[49]⟩)
 have c10_t_3:=bcv g10 w8.heap.size 3 (.string ⟨#[49]⟩)
 have z10_t : w8.heap.size<w10.heap.size:=World.block_lt_of_cell? _ _ c10_t_0
 have B10 : Below w.heap.size w w10:=bn B9 S10
 clear g10 S10
 rw [List.length_nil]
 clear qz
 go_wp2_with fail
 refine (vec13_walk _ _ _ _).mono ?_
 rintro e w11 ⟨rfl,g11⟩
 have S11 : Below w10.heap.size w10 w11:=bn bel g11
 replace VB_:=Lib.hid (VB_.out.below S11)
 replace VD_:=Lib.hid (VD_.out.below S11)
 replace VU_:=Lib.hid (VU_.out.below S11)
 replace VT_:=Lib.hid (VT_.out.below S11)
 have B11 : Below w.heap.size w w11:=bn B10 S11
 clear g11 S11
 go_wp2_with fail
 refine (H7.out _ _ (hB.below bel) (VB_.out.below bel)).mono ?_
 rintro e w12 ⟨AVM_,cVM_,rfl,qVM_,g12⟩
 have S12 : Below w11.heap.size w11 w12:=bn bel g12
 replace VB_:=Lib.hid (VB_.out.below S12)
 replace VD_:=Lib.hid (VD_.out.below S12)
 replace VU_:=Lib.hid (VU_.out.below S12)
 replace VT_:=Lib.hid (VT_.out.below S12)
 have B12 : Below w.heap.size w w12:=bn B11 S12
 clear g12 S12
 rw [← LM.out] at qVM_ ⊢
 have VM_:=Lib.hid qVM_
 clear qVM_
 clear VM_
 go_wp2_with fail
 refine (vec13_walk _ _ _ _).mono ?_
 rintro e w13 ⟨rfl,g13⟩
 have S13 : Below w12.heap.size w12 w13:=bn bel g13
 replace VB_:=Lib.hid (VB_.out.below S13)
 replace VD_:=Lib.hid (VD_.out.below S13)
 replace VU_:=Lib.hid (VU_.out.below S13)
 replace VT_:=Lib.hid (VT_.out.below S13)
 have B13 : Below w.heap.size w w13:=bn B12 S13
 clear g13 S13
 go_wp2_with fail
 refine (H8.out _ _ _ (hB.below bel) (VB_.out.below bel) (by unfold Rs; exact Rd.own (own_str w13 ⟨#[49]⟩))).mono ?_
 rintro e w14 ⟨As,cs,vs,rfl,qr,ql,qe,g14⟩
 have S14 : Below w13.heap.size w13 w14:=bn bel g14
 replace VB_:=Lib.hid (VB_.out.below S14)
 replace VD_:=Lib.hid (VD_.out.below S14)
 replace VU_:=Lib.hid (VU_.out.below S14)
 replace VT_:=Lib.hid (VT_.out.below S14)
 have B14 : Below w.heap.size w w14:=bn B13 S14
 clear g14 S14
 rw [show ([e2] : List (List (SV × SV))).length=1 from rfl] at qr ql ⊢
 obtain ⟨v9,hv9⟩ : ∃ v,vs=[v]:=by
  match vs,ql with
  | [v],_=>exact ⟨v,rfl⟩
 subst hv9
 have q9:=qe 0 v9 e2 rfl rfl
 obtain ⟨A9,c9,rfl, -, -, -⟩:=q9.open
 rw [N2.out] at qr
 obtain ⟨-,As2,cs2,hvs, -, -,hcl⟩:=qr
 cases hvs
 obtain ⟨bs,off,rfl,hc9⟩:=hcl (by omega)
 have hc0:=hc9 0 _ rfl
 rw [Nat.add_zero] at hc0
 clear hc9 hcl q9 qe ql
 go_wp2_with fail
 refine (H9.out _ _ (hB.below bel) (VD_.out.below bel)).mono ?_
 rintro e w15 ⟨rfl,g15⟩
 have S15 : Below w14.heap.size w14 w15:=bn bel g15
 replace hc0:=bc S15 hc0
 replace VB_:=Lib.hid (VB_.out.below S15)
 replace VD_:=Lib.hid (VD_.out.below S15)
 replace VU_:=Lib.hid (VU_.out.below S15)
 replace VT_:=Lib.hid (VT_.out.below S15)
 have B15 : Below w.heap.size w w15:=bn B14 S15
 clear g15 S15
 go_wp2_with fail
 refine (H10.out _ _ (hB.below bel) (VU_.out.below bel)).mono ?_
 rintro e w16 ⟨rfl,g16⟩
 have S16 : Below w15.heap.size w15 w16:=bn bel g16
 replace hc0:=bc S16 hc0
 replace VB_:=Lib.hid (VB_.out.below S16)
 replace VD_:=Lib.hid (VD_.out.below S16)
 replace VU_:=Lib.hid (VU_.out.below S16)
 replace VT_:=Lib.hid (VT_.out.below S16)
 have B16 : Below w.heap.size w w16:=bn B15 S16
 clear g16 S16
 go_wp2_with fail
 refine (H11.out _ _ _ (VT_.out.below bel) (VB_.out.below bel)).mono ?_
 rintro e w17 ⟨rfl,g17⟩
 have S17 : Below w16.heap.size w16 w17:=bn bel g17
 replace hc0:=bc S17 hc0
 replace VB_:=Lib.hid (VB_.out.below S17)
 replace VD_:=Lib.hid (VD_.out.below S17)
 replace VU_:=Lib.hid (VU_.out.below S17)
 replace VT_:=Lib.hid (VT_.out.below S17)
 have B17 : Below w.heap.size w w17:=bn B16 S17
 clear g17 S17
 have hbl:=World.block_lt_of_cell? _ _ hc0
 go_wp2
 go_ret
 exact ⟨rfl,bel⟩
end Go.Proofs.YtopfedbhkfdjkaaGreatDoor
