
/- clip: what pieces yields; what its callbacks keep. -/
import Derived.RangeFuncNested
import Derived.RangeFuncBound
import Derived.RangeFuncCalls
import Derived.RangeFuncBox
import Derived.RangeFuncLeaves
import Derived.Shelf.Abstract
import Derived.Shelf.RegionOpen
import Derived.WalkKit
import Derived.OwnWalkIn
import Derived.TacticsInMore
import Derived.LoopNIn
import Derived.LoopIn
import Derived.Test.YtopfedbhkfdjkaaGreatDoorF1
import Derived.Deep.RegionHeld3
import Derived.OrdersIn
import Derived.TacticsIn
set_option linter.unusedVariables false
set_option linter.unusedSimpArgs false
namespace Go.Proofs.YtopfedbhkfdjkaaGreatDoor
open Go Go.RowKit
attribute [local go_sem] Oper.semAt_some
abbrev Pc:=Sum (Tr V3 × Bool) (V3 × V3)
def pcs3 (p : Pl) (a b c : V3) (f : Bool) : List Pc:=(edgeA p a b c f).map .inr++[.inl (lone p a b c,f),.inl (⟨crossV p a b,b,c⟩,!f),.inl (⟨crossV p a b,c,crossV p a c⟩,!f)]
def pcs (p : Pl) (t : Tr V3) : List Pc :=
 match upP p t.a,upP p t.b,upP p t.c with
 | false,false,false=>[.inl (t,false)]
 | true,true,true=>[.inl (t,true)]
 | true,false,false=>pcs3 p t.a t.b t.c true
 | false,true,false=>pcs3 p t.b t.c t.a true
 | false,false,true=>pcs3 p t.c t.a t.b true
 | false,true,true=>pcs3 p t.a t.b t.c false
 | true,false,true=>pcs3 p t.b t.c t.a false
 | true,true,false=>pcs3 p t.c t.a t.b false
def pcY : Pc→Bool | .inl _=>true | .inr _=>false
def pcV : Pc→Array Value
 | .inl (t,f)=>#[.agg #[.string (rtx t.a.x),.string (rtx t.a.y),.string (rtx t.a.z),.string (rtx t.b.x),.string (rtx t.b.y),.string (rtx t.b.z),.string (rtx t.c.x),.string (rtx t.c.y),.string (rtx t.c.z),.bool f]]
 | .inr _=>#[]
def pcE (bs : Nat) : Pc→Array Value
 | .inl _=>#[]
 | .inr (d,e)=>#[.agg #[.string (rtx d.x),.string (rtx d.y),.string (rtx d.z),.string (rtx e.x),.string (rtx e.y),.string (rtx e.z)],.pointer (some ⟨bs,0,none⟩)]
structure Kx (X : World→Nat→Prop) (W W' : World) : Prop where
 size : W.heap.size≤W'.heap.size
 block : ∀ k,k<W.heap.size→¬ X W k→W'.heap[k]?=W.heap[k]?
 sub : ∀ k,k<W.heap.size→X W' k→X W k
theorem Kx.refl (X : World→Nat→Prop) (W : World) : Kx X W W:=⟨Nat.le_refl _,fun _ _ _=>rfl,fun _ _ h=>h⟩
theorem Kx.trans {X : World→Nat→Prop} {a b c : World} (h : Kx X a b) (k : Kx X b c) : Kx X a c :=
 ⟨Nat.le_trans h.size k.size,fun i hi hx=>(k.block i (Nat.lt_of_lt_of_le hi h.size) (fun e=>hx (h.sub i hi e))).trans (h.block i hi hx),fun i hi hx=>h.sub i hi (k.sub i (Nat.lt_of_lt_of_le hi h.size) hx)⟩
def XLaw (X : World→Nat→Prop) (C : World→Prop) : Prop:=∀ A B k,C A→Below A.heap.size A B→X B k→(k<A.heap.size∧X A k)∨∃ o,B.heap[k]?=some o∧o.isCells=false
theorem Kx.below {X : World→Nat→Prop} {C : World→Prop} (hX : XLaw X C) (hN : ∀ A k o,A.heap[k]?=some o→o.isCells=false→X A k) {a b : World} (hc : C a) (g : Below a.heap.size a b) : Kx X a b :=
 ⟨g.size,fun k hk _=>g.block k hk,fun k hk h=>by
  rcases hX a b k hc g h with ⟨-,h⟩ | ⟨o,ho,hn⟩
  ·exact h
  ·exact hN a k o ((g.block k hk).symm.trans ho) hn⟩
theorem cells_of {w : World} {b i : Nat} {v : Value} (h : w.cell? ⟨b,i,none⟩=some v) {o : Obj} (ho : w.heap[b]?=some o) : o.isCells=true:=by
 cases o<;>simp [World.cell?,ho,Obj.isCells] at h ⊢
structure Bo (X : World→Nat→Prop) (w : World) (b : Nat) (vs : List Value) : Prop where
 bk : Bk w b vs
 out : ¬ X w b
theorem Bo.kx {X : World→Nat→Prop} {w w1 : World} {b : Nat} {vs : List Value} (h : Bo X w b vs) (k : Kx X w w1) : Bo X w1 b vs:=by
 have e:=k.block b h.bk.lt h.out
 refine ⟨⟨Nat.lt_of_lt_of_le h.bk.lt k.size,fun i v hv=>?_,fun i=>?_⟩,fun hx=>h.out (k.sub b h.bk.lt hx)⟩
 ·have:=h.bk.cell i v hv
  simpa [World.cell?,e] using this
 ·have:=h.bk.free i
  simpa [World.frozen?,e] using this
theorem Bo.new {X : World→Nat→Prop} {C : World→Prop} (hX : XLaw X C) {w w1 : World} {b : Nat} {v : Value} {vs : List Value} (hc : C w) (g : Below w.heap.size w w1) (h : Bk w1 b (v :: vs)) (hb : w.heap.size≤b) : Bo X w1 b (v :: vs) :=
 ⟨h,fun hx=>by
  rcases hX w w1 b hc g hx with ⟨hl, -⟩ | ⟨o,ho,hn⟩
  ·omega
  ·rw [cells_of (h.cell 0 v rfl) ho] at hn
   cases hn⟩
theorem Bo.below {X : World→Nat→Prop} {C : World→Prop} (hX : XLaw X C) {w w1 : World} {b : Nat} {v : Value} {vs : List Value} (hc : C w) (g : Below w.heap.size w w1) (h : Bo X w b (v :: vs)) : Bo X w1 b (v :: vs) :=
 ⟨h.bk.below g,fun hx=>by
  rcases hX w w1 b hc g hx with ⟨-,h1⟩ | ⟨o,ho,hn⟩
  ·exact h.out h1
  ·rw [cells_of ((h.bk.below g).cell 0 v rfl) ho] at hn
   cases hn⟩
theorem cut_txt (p : Pl) (t : Tr V3) (h0 : p.n≠V3.zero) (hp : p.le 100000) (ha : t.a.le 100000) (hb : t.b.le 100000) (hc : t.c.le 100000) (w : World) (hB : Bw w) :
  Calls Tryz.prog 130 #[.agg #[.string (rtx t.a.x),.string (rtx t.a.y),.string (rtx t.a.z),.string (rtx t.b.x),.string (rtx t.b.y),.string (rtx t.b.z),.string (rtx t.c.x),.string (rtx t.c.y),.string (rtx t.c.z)],PV p] w fun e w' =>
   e=.returned (.tuple #[.int .i64 (cutI (upP p t.a) (upP p t.b) (upP p t.c)),.bool (cutA (upP p t.a) (upP p t.b) (upP p t.c))])∧Below w.heap.size w w' :=
 cut_at _ _ _ _ _ _ _ _ _ _ _ _ _ (rsg (p.height t.a)) (rsg (p.height t.b)) (rsg (p.height t.c)) _ _ _ rsg_up rsg_up rsg_up w hB
  (fun w hB=>vSide_walk p t.a h0 ⟨hp.1.mono (by omega),by have:=hp.2; omega⟩ (ha.mono (by omega)) w hB)
  (fun w hB=>vSide_walk p t.b h0 ⟨hp.1.mono (by omega),by have:=hp.2; omega⟩ (hb.mono (by omega)) w hB)
  (fun w hB=>vSide_walk p t.c h0 ⟨hp.1.mono (by omega),by have:=hp.2; omega⟩ (hc.mono (by omega)) w hB)
theorem cut_turns (p : Pl) (t : Tr V3) (h0 : p.n≠V3.zero) (hp : p.le 100000) (ha : t.a.le 100000) (hb : t.b.le 100000) (hc : t.c.le 100000) :
  (∃ f,cutI (upP p t.a) (upP p t.b) (upP p t.c) = -1∧cutA (upP p t.a) (upP p t.b) (upP p t.c)=f∧pcs p t=[.inl (t,f)]) ∨
  ∃ i f a b c,cutI (upP p t.a) (upP p t.b) (upP p t.c)=i∧¬ i<0∧cutA (upP p t.a) (upP p t.b) (upP p t.c)=f∧pcs p t=pcs3 p a b c f ∧
   (∀ w,Calls Tryz.prog 131 #[.agg #[.string (rtx t.a.x),.string (rtx t.a.y),.string (rtx t.a.z),.string (rtx t.b.x),.string (rtx t.b.y),.string (rtx t.b.z),.string (rtx t.c.x),.string (rtx t.c.y),.string (rtx t.c.z)],.int .i64 i] w fun e w' =>
    e=.returned (.agg #[.string (rtx a.x),.string (rtx a.y),.string (rtx a.z),.string (rtx b.x),.string (rtx b.y),.string (rtx b.z),.string (rtx c.x),.string (rtx c.y),.string (rtx c.z)])∧Below w.heap.size w w') ∧
   (∀ w,Bw w→Calls Tryz.prog 132 #[PV p,VV a,VV b] w fun e w'=>e=.returned (VV (crossV p a b))∧Below w.heap.size w w') ∧
   (∀ w,Bw w→Calls Tryz.prog 132 #[PV p,VV a,VV c] w fun e w'=>e=.returned (VV (crossV p a c))∧Below w.heap.size w w'):=by
 unfold pcs
 cases h1 : upP p t.a<;>cases h2 : upP p t.b<;>cases h3 : upP p t.c
 ·exact .inl ⟨_,rfl,rfl,rfl⟩
 ·exact .inr ⟨2,true,t.c,t.a,t.b,rfl,by decide,rfl,rfl,fun w=>cturned_2 _ _ _ _ _ _ _ _ _ w,fun w hB=>ccrossing_walk p _ _ h0 (by rw [h3,h1]; decide) hp hc ha w hB,fun w hB=>ccrossing_walk p _ _ h0 (by rw [h3,h2]; decide) hp hc hb w hB⟩
 ·exact .inr ⟨1,true,t.b,t.c,t.a,rfl,by decide,rfl,rfl,fun w=>cturned_1 _ _ _ _ _ _ _ _ _ w,fun w hB=>ccrossing_walk p _ _ h0 (by rw [h2,h3]; decide) hp hb hc w hB,fun w hB=>ccrossing_walk p _ _ h0 (by rw [h2,h1]; decide) hp hb ha w hB⟩
 ·exact .inr ⟨0,false,t.a,t.b,t.c,rfl,by decide,rfl,rfl,fun w=>cturned_0 _ _ _ _ _ _ _ _ _ w,fun w hB=>ccrossing_walk p _ _ h0 (by rw [h1,h2]; decide) hp ha hb w hB,fun w hB=>ccrossing_walk p _ _ h0 (by rw [h1,h3]; decide) hp ha hc w hB⟩
 ·exact .inr ⟨0,true,t.a,t.b,t.c,rfl,by decide,rfl,rfl,fun w=>cturned_0 _ _ _ _ _ _ _ _ _ w,fun w hB=>ccrossing_walk p _ _ h0 (by rw [h1,h2]; decide) hp ha hb w hB,fun w hB=>ccrossing_walk p _ _ h0 (by rw [h1,h3]; decide) hp ha hc w hB⟩
 ·exact .inr ⟨1,false,t.b,t.c,t.a,rfl,by decide,rfl,rfl,fun w=>cturned_1 _ _ _ _ _ _ _ _ _ w,fun w hB=>ccrossing_walk p _ _ h0 (by rw [h2,h3]; decide) hp hb hc w hB,fun w hB=>ccrossing_walk p _ _ h0 (by rw [h2,h1]; decide) hp hb ha w hB⟩
 ·exact .inr ⟨2,false,t.c,t.a,t.b,rfl,by decide,rfl,rfl,fun w=>cturned_2 _ _ _ _ _ _ _ _ _ w,fun w hB=>ccrossing_walk p _ _ h0 (by rw [h3,h1]; decide) hp hc ha w hB,fun w hB=>ccrossing_walk p _ _ h0 (by rw [h3,h2]; decide) hp hc hb w hB⟩
 ·exact .inl ⟨_,rfl,rfl,rfl⟩
theorem pcs_len (p : Pl) (t : Tr V3) : (pcs p t).length≤4:=by
 have h : ∀ a b c f,(pcs3 p a b c f).length≤4:=fun a b c f=>by
  unfold pcs3 edgeA
  split<;>(try split)<;>simp
 unfold pcs
 split<;>(first | exact h _ _ _ _ | simp)
theorem pcs_take (p : Pl) : ∀ (L : List (Tr V3)) (k : Nat),((L.take k).flatMap (pcs p)).length≤4 * k
 | L,0=>by simp
 | [],k+1=>by simp
 | t :: L,k+1=>by
  rw [List.take_succ_cons,List.flatMap_cons,List.length_append]
  have:=pcs_take p L k
  have:=pcs_len p t
  omega
theorem pcs_step (p : Pl) {L : List (Tr V3)} {k : Nat} {t : Tr V3} (h : L[k]?=some t) : (L.take (k+1)).flatMap (pcs p)=(L.take k).flatMap (pcs p)++pcs p t:=by
 rw [List.take_add_one,h,List.flatMap_append]
 simp
end Go.Proofs.YtopfedbhkfdjkaaGreatDoor


/- clip: what pieces yields, and which edges it hands on: the walk. -/
namespace Go.Proofs.YtopfedbhkfdjkaaGreatDoor
open Go Go.RowKit
attribute [local go_sem] Oper.semAt_some
theorem ts_nth {w : World} {A : Option Addr} {n cap k : Nat} {l : List TV} {t : TV} (h : Ts w (.slice A n cap) l) (hg : l[k]?=some t) :
  ∃ b off,A=some ⟨b,off,none⟩∧w.cell? ⟨b,off+k * 9,none⟩=some (.string t.a.x)∧w.cell? ⟨b,off+k * 9+1,none⟩=some (.string t.a.y)∧w.cell? ⟨b,off+k * 9+2,none⟩=some (.string t.a.z) ∧
  w.cell? ⟨b,off+k * 9+3,none⟩=some (.string t.b.x)∧w.cell? ⟨b,off+k * 9+4,none⟩=some (.string t.b.y)∧w.cell? ⟨b,off+k * 9+5,none⟩=some (.string t.b.z) ∧
  w.cell? ⟨b,off+k * 9+6,none⟩=some (.string t.c.x)∧w.cell? ⟨b,off+k * 9+7,none⟩=some (.string t.c.y)∧w.cell? ⟨b,off+k * 9+8,none⟩=some (.string t.c.z):=by
 obtain ⟨A',cap',hv,_,_,hcell⟩:=h.open
 cases hv
 obtain ⟨b,off,hA,hcl⟩:=hcell (by have:=(List.getElem?_eq_some_iff.1 hg).1; omega)
 exact ⟨b,off,hA,ts_nine (hcl k t hg)⟩
theorem eqb_txv (u v : V3) : ((rtx u.x).toList == (rtx v.x).toList && ((rtx u.y).toList == (rtx v.y).toList && (rtx u.z).toList == (rtx v.z).toList))=decide (u=v):=by
 rw [Bool.eq_iff_iff]
 simp only [Bool.and_eq_true,beq_iff_eq,decide_eq_true_eq]
 constructor
 ·rintro ⟨h1,h2,h3⟩
  have q : ∀ a b : Rat,(rtx a).toList=(rtx b).toList→a=b:=fun a b h=>rtx_inj (by
   rw [ByteArray.toList_eq,ByteArray.toList_eq] at h
   exact ByteArray.ext (Array.toList_inj.1 h))
  obtain ⟨u1,u2,u3⟩:=u
  obtain ⟨v1,v2,v3⟩:=v
  dsimp only at h1 h2 h3
  rw [q _ _ h1,q _ _ h2,q _ _ h3]
 ·rintro rfl
  exact ⟨rfl,rfl,rfl⟩
theorem edge_len (p : Pl) (a b c : V3) (f : Bool) : (edgeA p a b c f).length≤1:=by
 unfold edgeA
 split
 ·simp
 ·split<;>simp
set_option maxRecDepth 100000 in
set_option maxHeartbeats 4000000 in
theorem pieces1_walk (L : List (Tr V3)) (p : Pl) (h0 : p.n≠V3.zero) (hp : p.le 100000) (hL : ∀ t ∈ L,t.a.le 100000∧t.b.le 100000∧t.c.le 100000) (lr bsec : Nat) (b1 b2 b3 : Nat) (A : Option Addr) (cap m : Nat) (hm : 1≤m)
  (N : Nat) (hN : L.length * 4≤N) (hN6 : L.length≤1000000) (w0 : World) (hB : Bw w0) (hv : Ts w0 (.slice A L.length cap) (L.map txt)) (X : World→Nat→Prop) (C : World→Prop) (hC : ∀ A,C A→Below w0.heap.size w0 A) (hX : XLaw X C) (hXN : ∀ A k o,A.heap[k]?=some o→o.isCells=false→X A k)
  (J : List Pc→World→Prop) (hJ : ∀ s A B,J s A→Below A.heap.size A B→J s B) (hJC : ∀ s A,J s A→C A)
  (hY : ∀ pre z W1,pcY z=true→J pre W1→pre.length<N→YieldAt Fence.wide (m - 1) Tryz.prog lr (pcV z) W1 fun e W'=>e=.returned (.bool true)∧J (pre++[z]) W'∧Kx X W1 W')
  (hE : ∀ pre z W1,pcY z=false→J pre W1→pre.length<N→CallsIn Fence.wide (m - 1) Tryz.prog 84 (pcE bsec z) W1 fun e W'=>(∃ v,e=.returned v)∧J (pre++[z]) W'∧Kx X W1 W')
  (W : World) (k1 : Bo X W b1 [.slice A L.length cap]) (k2 : Bo X W b2 [.string (rtx p.n.x),.string (rtx p.n.y),.string (rtx p.n.z),.string (rtx p.c)]) (k3 : Bo X W b3 [.func (.func 84) #[] #[.pointer (some ⟨bsec,0,none⟩)]])
  (hj : J [] W) :
  CallsIn Fence.wide m Tryz.prog 129 #[.func (.yield lr) #[] #[],.pointer (some ⟨b1,0,none⟩),.pointer (some ⟨b2,0,none⟩),.pointer (some ⟨b3,0,none⟩)] W fun e W'=>(∃ v,e=.returned v)∧J (L.flatMap (pcs p)) W':=by
 refine callsIn_of_wp Tryz.func129 rfl trivial ?_ rfl
 simp only [Tryz.ntmps129,List.size_toArray,List.length_cons,List.length_nil,Nat.reduceAdd,Nat.reduceSub,Array.replicate_succ,Array.replicate_zero,List.push_toArray,List.append_toArray,List.nil_append,List.cons_append]
 have c1:=k1.bk.cell 0 _ rfl
 have HTE:=Lib.hid (show L.take L.length=L from List.take_length)
 obtain ⟨n,hn0⟩ : ∃ n,n=L.length:=⟨_,rfl⟩
 have HG:=Lib.hid (fun k (hk : k<n)=>(show ∃ t,L[k]?=some t from ⟨_,List.getElem?_eq_getElem (by rw [← hn0]; exact hk)⟩))
 have HCC:=Lib.hid (fun (k : Nat) (t : Tr V3) (h : L[k]?=some t)=>(show _∧_ from ⟨cut_turns p t h0 hp (hL t (List.mem_of_getElem? h)).1 (hL t (List.mem_of_getElem? h)).2.1 (hL t (List.mem_of_getElem? h)).2.2,cut_txt p t h0 hp (hL t (List.mem_of_getElem? h)).1 (hL t (List.mem_of_getElem? h)).2.1 (hL t (List.mem_of_getElem? h)).2.2⟩))
 have HV:=Lib.hid hv
 have HY:=Lib.hid hY
 have HE:=Lib.hid hE
 have HJ:=Lib.hid hJ
 have HCJ:=Lib.hid hJC
 have HC:=Lib.hid hC
 have HX:=Lib.hid hX
 have HXN:=Lib.hid hXN
 have HK1:=Lib.hid k1
 have HK2:=Lib.hid k2
 have HK3:=Lib.hid k3
 have HN:=Lib.hid hN
 have HST:=Lib.hid (fun (k : Nat) (t : Tr V3) (h : L[k]?=some t)=>pcs_step p h)
 have HLE:=Lib.hid (fun k=>pcs_take p L k)
 clear hL hv hY hE hJ hJC hC hX hXN k1 k2 k3 h0 hp hN
 rw [← hn0] at HTE HV HK1 HN c1 hN6
 clear hn0
 gi_wp2
 gi_loopw [15] (fun ii wr=>∃ k : Nat,k≤n∧ii=.int .i64 k∧J ((L.take k).flatMap (pcs p)) wr∧Kx X W wr) (fun ii _=>n - (intOf ii).toNat)
 case atStart=>exact ⟨0,Nat.zero_le _,rfl,hj,Kx.refl _ _⟩
 case round =>
  obtain ⟨k,hk,rfl,hjk,hkx⟩:=hrel
  by_cases hlt : k<n
  ·obtain ⟨t,hg⟩:=HG.out k hlt
   have HPS:=Lib.hid (HST.out k t hg)
   have HPL:=Lib.hid (HLE.out k)
   have hcw:=HCJ.out _ _ hjk
   have hbw:=HC.out _ hcw
   have hBr:=hB.below hbw
   have o1:=HK1.out.kx hkx
   have o2:=HK2.out.kx hkx
   have o3:=HK3.out.kx hkx
   obtain ⟨b,off,rfl,t0,t1,t2,t3,t4,t5,t6,t7,t8⟩:=ts_nth (k:=k) (HV.out.below hbw) (t:=txt t) (by rw [List.getElem?_map,hg]; rfl)
   obtain ⟨hcut,htxt⟩:=HCC.out k t hg
   have HCT:=Lib.hid htxt
   clear htxt
   obtain ⟨p0,p1,p2,p3, -⟩:=o2.bk.c4
   have e3:=o3.bk.cell 0 _ rfl
   have hk0 : (0 : Int)≤(k : Int):=by omega
   have hkn : (k : Int)<(n : Int):=by omega
   have hbl:=World.block_lt_of_cell? wr _ t0
   have hl2:=o2.bk.lt
   have hl3:=o3.bk.lt
   dsimp only [txt,txv,Tr.map] at t0 t1 t2 t3 t4 t5 t6 t7 t8
   have HO1:=Lib.hid o1
   have HO2:=Lib.hid o2
   have HO3:=Lib.hid o3
   have HX1:=Lib.hid hkx
   clear o1 o2 o3 hkx hg
   have hEQ:=Lib.hid (show Below wr.heap.size wr (wr.alloc (.cells #[.string (rtx t.a.x),.string (rtx t.a.y),.string (rtx t.a.z),.string (rtx t.b.x),.string (rtx t.b.y),.string (rtx t.b.z),.string (rtx t.c.x),.string (rtx t.c.y),.string (rtx t.c.z)] 36)) from bel)
   rcases hcut with ⟨f,hi,hf,hps⟩ | ⟨i,f,a,b',c,hi,hneg,hf,hps,htu,hx1,hx2⟩
   ·rw [hi,hf] at HCT
    rw [hps] at HPS
    clear hi hf hps
    gi_wp2_with fail
    refine ⟨trivial, ?_⟩
    refine (callsIn_wide.2 (HCT.out _ (hBr.below bel))).mono ?_
    rintro e w1 ⟨rfl,g1⟩
    have KT : Bk w1 wr.heap.size [.string (rtx t.a.x),.string (rtx t.a.y),.string (rtx t.a.z),.string (rtx t.b.x),.string (rtx t.b.y),.string (rtx t.b.z),.string (rtx t.c.x),.string (rtx t.c.y),.string (rtx t.c.z)]:=Bk.below bkk g1
    obtain ⟨⟨a0,a1,a2,a3,a4,a5,a6,a7,a8⟩, -⟩:=KT.c9
    have BB:=bn hEQ.out g1
    have HJ1:=Lib.hid (HJ.out _ _ _ hjk BB)
    obtain ⟨fn,tmps,assign,body,hy,hR⟩:=HY.out _ (.inl (t,f)) w1 rfl HJ1.out (by have:=HPL.out; have:=HN.out; omega)
    dsimp only [pcV] at hy
    have HX2:=Lib.hid (HX1.out.trans (Kx.below HX.out HXN.out hcw BB))
    clear g1 BB hEQ hjk
    gi_wp2
    refine hR.mono ?_
    rintro e W3 ⟨rfl,hJ3,hk3⟩
    gi_wp2
    go_roundw
    case rel=>exact ⟨k+1,by omega,by go_num,by rw [HPS.out]; exact hJ3,HX2.out.trans hk3⟩
    case measure=>simp [intOf]; omega
   ·rw [hi,hf] at HCT
    rw [hps] at HPS
    have HTU:=Lib.hid htu
    obtain ⟨d1,hd1⟩ : ∃ x,x=rtx (crossV p a b').x:=⟨_,rfl⟩
    obtain ⟨d2,hd2⟩ : ∃ x,x=rtx (crossV p a b').y:=⟨_,rfl⟩
    obtain ⟨d3,hd3⟩ : ∃ x,x=rtx (crossV p a b').z:=⟨_,rfl⟩
    obtain ⟨m1,hm1⟩ : ∃ x,x=rtx (crossV p a c).x:=⟨_,rfl⟩
    obtain ⟨m2,hm2⟩ : ∃ x,x=rtx (crossV p a c).y:=⟨_,rfl⟩
    obtain ⟨m3,hm3⟩ : ∃ x,x=rtx (crossV p a c).z:=⟨_,rfl⟩
    simp only [VV_eq,← hd1,← hd2,← hd3] at hx1
    simp only [VV_eq,← hm1,← hm2,← hm3] at hx2
    have HC1:=Lib.hid hx1
    have HC2:=Lib.hid hx2
    clear hx1 hx2
    have HY1 : Hid (∀ (pre : List Pc) (W1 : World),J pre W1→pre.length<N→YieldAt Fence.wide (m - 1) Tryz.prog lr #[.agg #[.string (rtx a.x),.string (rtx a.y),.string (rtx a.z),.string d1,.string d2,.string d3,.string m1,.string m2,.string m3,.bool f]] W1 fun e W'=>e=.returned (.bool true)∧J (pre++[.inl (lone p a b' c,f)]) W'∧Kx X W1 W'):=Lib.hid (fun pre W1 h1 h2=>by
     simp only [hd1,hd2,hd3,hm1,hm2,hm3]
     exact HY.out pre (.inl (lone p a b' c,f)) W1 rfl h1 h2)
    have HY2 : Hid (∀ (pre : List Pc) (W1 : World),J pre W1→pre.length<N→YieldAt Fence.wide (m - 1) Tryz.prog lr #[.agg #[.string d1,.string d2,.string d3,.string (rtx b'.x),.string (rtx b'.y),.string (rtx b'.z),.string (rtx c.x),.string (rtx c.y),.string (rtx c.z),.bool (!f)]] W1 fun e W'=>e=.returned (.bool true)∧J (pre++[.inl (⟨(crossV p a b'),b',c⟩,(!f))]) W'∧Kx X W1 W'):=Lib.hid (fun pre W1 h1 h2=>by
     simp only [hd1,hd2,hd3,hm1,hm2,hm3]
     exact HY.out pre (.inl (⟨(crossV p a b'),b',c⟩,(!f))) W1 rfl h1 h2)
    have HY3 : Hid (∀ (pre : List Pc) (W1 : World),J pre W1→pre.length<N→YieldAt Fence.wide (m - 1) Tryz.prog lr #[.agg #[.string d1,.string d2,.string d3,.string (rtx c.x),.string (rtx c.y),.string (rtx c.z),.string m1,.string m2,.string m3,.bool (!f)]] W1 fun e W'=>e=.returned (.bool true)∧J (pre++[.inl (⟨(crossV p a b'),c,(crossV p a c)⟩,(!f))]) W'∧Kx X W1 W'):=Lib.hid (fun pre W1 h1 h2=>by
     simp only [hd1,hd2,hd3,hm1,hm2,hm3]
     exact HY.out pre (.inl (⟨(crossV p a b'),c,(crossV p a c)⟩,(!f))) W1 rfl h1 h2)
    have HE1 : Hid (∀ (pre : List Pc) (W1 : World),J pre W1→pre.length<N→CallsIn Fence.wide (m - 1) Tryz.prog 84 #[.agg #[.string d1,.string d2,.string d3,.string m1,.string m2,.string m3],.pointer (some ⟨bsec,0,none⟩)] W1 fun e W'=>(∃ v,e=.returned v)∧J (pre++[.inr ((crossV p a b'),(crossV p a c))]) W'∧Kx X W1 W'):=Lib.hid (fun pre W1 h1 h2=>by
     simp only [hd1,hd2,hd3,hm1,hm2,hm3]
     exact HE.out pre (.inr ((crossV p a b'),(crossV p a c))) W1 rfl h1 h2)
    have HE2 : Hid (∀ (pre : List Pc) (W1 : World),J pre W1→pre.length<N→CallsIn Fence.wide (m - 1) Tryz.prog 84 #[.agg #[.string m1,.string m2,.string m3,.string d1,.string d2,.string d3],.pointer (some ⟨bsec,0,none⟩)] W1 fun e W'=>(∃ v,e=.returned v)∧J (pre++[.inr ((crossV p a c),(crossV p a b'))]) W'∧Kx X W1 W'):=Lib.hid (fun pre W1 h1 h2=>by
     simp only [hd1,hd2,hd3,hm1,hm2,hm3]
     exact HE.out pre (.inr ((crossV p a c),(crossV p a b'))) W1 rfl h1 h2)
    obtain ⟨bb,hbb⟩ : ∃ x,x=decide ((crossV p a b')=(crossV p a c)):=⟨_,rfl⟩
    have HEQ : Hid (∀ w,(binOp .eql 26 (.agg #[.string d1,.string d2,.string d3]) (.agg #[.string m1,.string m2,.string m3])).run Tryz.prog w=.ok (.bool bb) w):=Lib.hid (fun w=>by rw [eql_vec,hbb,hd1,hd2,hd3,hm1,hm2,hm3,eqb_txv])
    have HED1 : Hid (bb=true→edgeA p a b' c f=[]):=Lib.hid (fun h=>by
     rw [hbb] at h
     unfold edgeA
     rw [if_pos (of_decide_eq_true h)])
    have HED2 : Hid (bb=false→edgeA p a b' c f=if f then [((crossV p a b'),(crossV p a c))] else [((crossV p a c),(crossV p a b'))]):=Lib.hid (fun h=>by
     rw [hbb] at h
     unfold edgeA
     rw [if_neg (of_decide_eq_false h)])
    clear hbb hd1 hd2 hd3 hm1 hm2 hm3
    have hneg : ¬ i<0:=by omega
    clear hi hf hps htu
    gi_wp2_with fail
    refine ⟨trivial, ?_⟩
    refine (callsIn_wide.2 (HCT.out _ (hBr.below bel))).mono ?_
    rintro e w1 ⟨rfl,g1⟩
    have KT : Bk w1 wr.heap.size [.string (rtx t.a.x),.string (rtx t.a.y),.string (rtx t.a.z),.string (rtx t.b.x),.string (rtx t.b.y),.string (rtx t.b.z),.string (rtx t.c.x),.string (rtx t.c.y),.string (rtx t.c.z)]:=Bk.below bkk g1
    obtain ⟨⟨a0,a1,a2,a3,a4,a5,a6,a7,a8⟩, -⟩:=KT.c9
    have BB:=bn hEQ.out g1
    clear g1 hEQ
    gi_wp2_with fail
    refine ⟨trivial, ?_⟩
    refine (callsIn_wide.2 (HTU.out _)).mono ?_
    rintro e w2 ⟨rfl,g2⟩
    have KT2:=KT.below g2
    have BB2:=bn BB g2
    clear KT BB g2 a0 a1 a2 a3 a4 a5 a6 a7 a8
    obtain ⟨⟨a0,a1,a2,a3,a4,a5,a6,a7,a8⟩,f0,f1,f2,f3,f4,f5,f6,f7,f8⟩:=KT2.c9
    have z2:=KT2.lt
    have z2s:=BB2.size
    gi_wp2_with fail
    obtain ⟨w3,hW3⟩ : ∃ w3,w3=((((((((w2.setCell ⟨wr.heap.size,0,none⟩ (.string (rtx a.x))).setCell ⟨wr.heap.size,1,none⟩ (.string (rtx a.y))).setCell ⟨wr.heap.size,2,none⟩ (.string (rtx a.z))).setCell ⟨wr.heap.size,3,none⟩ (.string (rtx b'.x))).setCell ⟨wr.heap.size,4,none⟩ (.string (rtx b'.y))).setCell ⟨wr.heap.size,5,none⟩ (.string (rtx b'.z))).setCell ⟨wr.heap.size,6,none⟩ (.string (rtx c.x))).setCell ⟨wr.heap.size,7,none⟩ (.string (rtx c.y))).setCell ⟨wr.heap.size,8,none⟩ (.string (rtx c.z)):=⟨_,rfl⟩
    rw [← hW3]
    have KT3 : Bk w3 wr.heap.size [.string (rtx a.x),.string (rtx a.y),.string (rtx a.z),.string (rtx b'.x),.string (rtx b'.y),.string (rtx b'.z),.string (rtx c.x),.string (rtx c.y),.string (rtx c.z)]:=by rw [hW3]; exact ((((((((KT2.set 0 (by simp) _).set 1 (by simp) _).set 2 (by simp) _).set 3 (by simp) _).set 4 (by simp) _).set 5 (by simp) _).set 6 (by simp) _).set 7 (by simp) _).set 8 (by simp) _
    have BB3 : Below wr.heap.size wr w3:=by rw [hW3]; exact bs (bs (bs (bs (bs (bs (bs (bs (bs BB2 (by simp)) (by simp)) (by simp)) (by simp)) (by simp)) (by simp)) (by simp)) (by simp)) (by simp)
    have KP3 : Bk w3 b2 [.string (rtx p.n.x),.string (rtx p.n.y),.string (rtx p.n.z),.string (rtx p.c)]:=HO2.out.bk.below BB3
    have hB3:=hBr.below BB3
    have z3:=KT3.lt
    have z4:=KP3.lt
    clear hW3 KT2 BB2 a0 a1 a2 a3 a4 a5 a6 a7 a8 f0 f1 f2 f3 f4 f5 f6 f7 f8 z2 z2s HTU HCT p0 p1 p2 p3
    refine wpIn_wide.2 ?_
    go_cut [9,10] (fun s9 s10 wx=>∃ p9 p10 : Nat,s9=.pointer (some ⟨p9,0,none⟩)∧s10=.pointer (some ⟨p10,0,none⟩)∧w3.heap.size≤p9∧w3.heap.size≤p10∧p9≠p10∧Hid (Bk wx p9 [.string d1,.string d2,.string d3])∧Hid (Bk wx p10 [.string m1,.string m2,.string m3])∧Hid (Bk wx wr.heap.size [.string (rtx a.x),.string (rtx a.y),.string (rtx a.z),.string (rtx b'.x),.string (rtx b'.y),.string (rtx b'.z),.string (rtx c.x),.string (rtx c.y),.string (rtx c.z)])∧Below w3.heap.size w3 wx)
    case first =>
     refine wp_region_held_drew (S:=fun w'=>Bk w' b2 [.string (rtx p.n.x),.string (rtx p.n.y),.string (rtx p.n.z),.string (rtx p.c)]∧Bk w' wr.heap.size [.string (rtx a.x),.string (rtx a.y),.string (rtx a.z),.string (rtx b'.x),.string (rtx b'.y),.string (rtx b'.z),.string (rtx c.x),.string (rtx c.y),.string (rtx c.z)]∧Below w3.heap.size w3 w') (by kernel_rfl) ?_ (fun hHeld=>?_)
     ·exact ⟨KP3.drew,KT3.drew,bd (br _)⟩
     refine wtk 0 (.agg #[.string (rtx p.n.x),.string (rtx p.n.y),.string (rtx p.n.z),.string (rtx p.c)]) rfl rfl (fun w' hS=>?_) hHeld ?_
     ·(try dsimp only at hS); obtain ⟨s0,s1,s2⟩:=hS; obtain ⟨x0,x1,x2,x3, -⟩:=s0.c4; go_simp
     try simp only [Act.put,lsx]
     refine wtk 1 (.pointer (some ⟨wr.heap.size,0,none⟩)) rfl rfl (fun w' hS=>?_) hHeld ?_
     ·(try dsimp only at hS); obtain ⟨s0,s1,s2⟩:=hS; have x0:=s1.cell 0 _ rfl; go_simp
     try simp only [Act.put,lsx]
     refine wtk 2 (.agg #[.string (rtx a.x),.string (rtx a.y),.string (rtx a.z)]) rfl rfl (fun w' hS=>?_) hHeld ?_
     ·(try dsimp only at hS); obtain ⟨s0,s1,s2⟩:=hS; obtain ⟨⟨x0,x1,x2,x3,x4,x5,x6,x7,x8⟩, -⟩:=s1.c9; go_simp
     try simp only [Act.put,lsx]
     refine wtk 3 (.pointer (some ⟨wr.heap.size,3,none⟩)) rfl rfl (fun w' hS=>?_) hHeld ?_
     ·(try dsimp only at hS); obtain ⟨s0,s1,s2⟩:=hS; have x0:=s1.cell 0 _ rfl; go_simp
     try simp only [Act.put,lsx]
     refine wtk 4 (.agg #[.string (rtx b'.x),.string (rtx b'.y),.string (rtx b'.z)]) rfl rfl (fun w' hS=>?_) hHeld ?_
     ·(try dsimp only at hS); obtain ⟨s0,s1,s2⟩:=hS; obtain ⟨⟨x0,x1,x2,x3,x4,x5,x6,x7,x8⟩, -⟩:=s1.c9; go_simp
     try simp only [Act.put,lsx]
     refine wtk 6 (.agg #[.string (rtx p.n.x),.string (rtx p.n.y),.string (rtx p.n.z),.string (rtx p.c)]) rfl rfl (fun w' hS=>?_) hHeld ?_
     ·(try dsimp only at hS); obtain ⟨s0,s1,s2⟩:=hS; obtain ⟨x0,x1,x2,x3, -⟩:=s0.c4; go_simp
     try simp only [Act.put,lsx]
     refine wtk 7 (.pointer (some ⟨wr.heap.size,0,none⟩)) rfl rfl (fun w' hS=>?_) hHeld ?_
     ·(try dsimp only at hS); obtain ⟨s0,s1,s2⟩:=hS; have x0:=s1.cell 0 _ rfl; go_simp
     try simp only [Act.put,lsx]
     refine wtk 8 (.agg #[.string (rtx a.x),.string (rtx a.y),.string (rtx a.z)]) rfl rfl (fun w' hS=>?_) hHeld ?_
     ·(try dsimp only at hS); obtain ⟨s0,s1,s2⟩:=hS; obtain ⟨⟨x0,x1,x2,x3,x4,x5,x6,x7,x8⟩, -⟩:=s1.c9; go_simp
     try simp only [Act.put,lsx]
     refine wtk 9 (.pointer (some ⟨wr.heap.size,6,none⟩)) rfl rfl (fun w' hS=>?_) hHeld ?_
     ·(try dsimp only at hS); obtain ⟨s0,s1,s2⟩:=hS; have x0:=s1.cell 0 _ rfl; go_simp
     try simp only [Act.put,lsx]
     refine wtk 10 (.agg #[.string (rtx c.x),.string (rtx c.y),.string (rtx c.z)]) rfl rfl (fun w' hS=>?_) hHeld ?_
     ·(try dsimp only at hS); obtain ⟨s0,s1,s2⟩:=hS; obtain ⟨⟨x0,x1,x2,x3,x4,x5,x6,x7,x8⟩, -⟩:=s1.c9; go_simp
     try simp only [Act.put,lsx]
     refine wpAnyH_ready (rs:=[5,12,13]) (by kernel_rfl) (by simp) ?_
     refine (AllReadyH.cons rfl (fun K hK=>?_) (AllReadyH.cons rfl (fun K hK=>?_) (AllReadyH.cons rfl (fun K hK=>?_) AllReadyH.nil)))
     ·skip
      rw [if_pos (by rfl)]
      go_wp2_with fail
      obtain ⟨s0,s1,s2⟩:=hHeld
      refine (HC1.out _ (hB3.below s2)).mono ?_
      rintro e v0_ ⟨rfl,g⟩
      have s3 : Below w3.heap.size w3 _:=bn s2 g
      have y0:=g.size
      have yy0:=s3.size
      (try simp at y0)
      refine hK.out _ _ ⟨s0.below g,s1.below g,s3⟩ (fun hHeld=>?_)
      clear g s0 s1 s2 s3 hK K
      try simp only [Act.put,lsx]
      refine wpAnyH_ready (rs:=[11,12,13]) (by kernel_rfl) (by simp) ?_
      refine (AllReadyH.cons rfl (fun K hK=>?_) (AllReadyH.cons rfl (fun K hK=>?_) (AllReadyH.cons rfl (fun K hK=>?_) AllReadyH.nil)))
      ·skip
       rw [if_pos (by rfl)]
       go_wp2_with fail
       obtain ⟨s0,s1,s2⟩:=hHeld
       refine (HC2.out _ (hB3.below s2)).mono ?_
       rintro e v1_ ⟨rfl,g⟩
       have s3 : Below w3.heap.size w3 _:=bn s2 g
       have y1:=g.size
       have yy1:=s3.size
       (try simp at y1)
       refine hK.out _ _ ⟨s0.below g,s1.below g,s3⟩ (fun hHeld=>?_)
       clear g s0 s1 s2 s3 hK K
       try simp only [Act.put,lsx]
       refine wpAnyH_ready (rs:=[12,13]) (by kernel_rfl) (by simp) ?_
       refine (AllReadyH.cons rfl (fun K hK=>?_) (AllReadyH.cons rfl (fun K hK=>?_) AllReadyH.nil))
       ·skip
        rw [if_pos (by rfl)]
        go_simp
        obtain ⟨s0,s1,s2⟩:=hHeld
        have q9 : Bk (v1_.alloc (.cells #[.string ⟨#[]⟩,.string ⟨#[]⟩,.string ⟨#[]⟩] 26)) (v1_.heap.size) [.string ⟨#[]⟩,.string ⟨#[]⟩,.string ⟨#[]⟩]:=bk_at (by simp)
        have zq9 : w3.heap.size≤v1_.heap.size:=by have:=s2.size; (try simp at this); omega
        refine hK.out _ _ ⟨s0.alloc _,s1.alloc _,ba s2⟩ (fun hHeld=>?_)
        clear s0 s1 s2 hK K
        try simp only [Act.put,lsx]
        refine wpAnyH_ready (rs:=[13]) (by kernel_rfl) (by simp) ?_
        refine (AllReadyH.cons rfl (fun K hK=>?_) AllReadyH.nil)
        rw [if_pos (by rfl)]
        go_simp
        obtain ⟨s0,s1,s2⟩:=hHeld
        have r10 : Bk ((v1_.alloc (.cells #[.string ⟨#[]⟩,.string ⟨#[]⟩,.string ⟨#[]⟩] 26)).alloc (.cells #[.string ⟨#[]⟩,.string ⟨#[]⟩,.string ⟨#[]⟩] 26)) (v1_.heap.size+1) [.string ⟨#[]⟩,.string ⟨#[]⟩,.string ⟨#[]⟩]:=bk_at (by simp)
        have zr10 : w3.heap.size≤v1_.heap.size+1:=by have:=s2.size; (try simp at this); omega
        replace q9:=Bk.alloc q9 (.cells #[.string ⟨#[]⟩,.string ⟨#[]⟩,.string ⟨#[]⟩] 26)
        refine hK.out _ _ ⟨s0.alloc _,s1.alloc _,ba s2⟩ (fun hHeld=>?_)
        clear s0 s1 s2 hK K
        try simp only [Act.put,lsx]
        refine wpAnyH_ready (rs:=[14]) (by kernel_rfl) (by simp) ?_
        refine (AllReadyH.cons rfl (fun K hK=>?_) AllReadyH.nil)
        obtain ⟨s0,s1,s2⟩:=hHeld
        refine step_store_row2 (w0:=w3) (B:=w3.heap.size) (b:=v1_.heap.size) (cs:=[.string d1,.string d2,.string d3]) (by rfl) 26 (.tmp 9) (.tmp 41) (by rfl) (by rfl) (by rfl) q9 (by rfl) (by simp) (by rfl) (by kernel_rfl) s2 (by omega) ?_
        intro W0 K0 G0 KP0 FR0 FB0
        replace r10:=FB0 _ _ (by omega) r10
        refine hK.out _ _ ⟨FB0 _ _ (by omega) s0,FB0 _ _ (by omega) s1,G0⟩ (fun hHeld=>?_)
        clear hK K s0 s1 s2
        try simp only [Act.put,lsx]
        refine wpAnyH_ready (rs:=[15]) (by kernel_rfl) (by simp) ?_
        refine (AllReadyH.cons rfl (fun K hK=>?_) AllReadyH.nil)
        obtain ⟨s0,s1,s2⟩:=hHeld
        refine step_store_row2 (w0:=w3) (B:=w3.heap.size) (b:=v1_.heap.size+1) (cs:=[.string m1,.string m2,.string m3]) (by rfl) 26 (.tmp 10) (.tmp 47) (by rfl) (by rfl) (by rfl) r10 (by rfl) (by simp) (by rfl) (by kernel_rfl) s2 (by omega) ?_
        intro W1 K1 G1 KP1 FR1 FB1
        refine hK.out _ _ ⟨FB1 _ _ (by omega) s0,FB1 _ _ (by omega) s1,G1⟩ (fun hHeld=>?_)
        clear hK K s0 s1 s2
        try simp only [Act.put,lsx]
        refine wpAnyH_done (by kernel_rfl) ?_ _
        go_wp2_with fail
        go_meet
        exact ⟨_,_,rfl,rfl,by omega,by omega,by omega,Lib.hid (FB1 _ _ (by omega) K0),Lib.hid K1,Lib.hid hHeld.2.1,hHeld.2.2⟩
       ·skip
        rw [if_pos (by rfl)]
        go_simp
        obtain ⟨s0,s1,s2⟩:=hHeld
        have r10 : Bk (v1_.alloc (.cells #[.string ⟨#[]⟩,.string ⟨#[]⟩,.string ⟨#[]⟩] 26)) (v1_.heap.size) [.string ⟨#[]⟩,.string ⟨#[]⟩,.string ⟨#[]⟩]:=bk_at (by simp)
        have zr10 : w3.heap.size≤v1_.heap.size:=by have:=s2.size; (try simp at this); omega
        refine hK.out _ _ ⟨s0.alloc _,s1.alloc _,ba s2⟩ (fun hHeld=>?_)
        clear s0 s1 s2 hK K
        try simp only [Act.put,lsx]
        refine wpAnyH_ready (rs:=[12]) (by kernel_rfl) (by simp) ?_
        refine (AllReadyH.cons rfl (fun K hK=>?_) AllReadyH.nil)
        rw [if_pos (by rfl)]
        go_simp
        obtain ⟨s0,s1,s2⟩:=hHeld
        have q9 : Bk ((v1_.alloc (.cells #[.string ⟨#[]⟩,.string ⟨#[]⟩,.string ⟨#[]⟩] 26)).alloc (.cells #[.string ⟨#[]⟩,.string ⟨#[]⟩,.string ⟨#[]⟩] 26)) (v1_.heap.size+1) [.string ⟨#[]⟩,.string ⟨#[]⟩,.string ⟨#[]⟩]:=bk_at (by simp)
        have zq9 : w3.heap.size≤v1_.heap.size+1:=by have:=s2.size; (try simp at this); omega
        replace r10:=Bk.alloc r10 (.cells #[.string ⟨#[]⟩,.string ⟨#[]⟩,.string ⟨#[]⟩] 26)
        refine hK.out _ _ ⟨s0.alloc _,s1.alloc _,ba s2⟩ (fun hHeld=>?_)
        clear s0 s1 s2 hK K
        try simp only [Act.put,lsx]
        refine wpAnyH_ready (rs:=[14]) (by kernel_rfl) (by simp) ?_
        refine (AllReadyH.cons rfl (fun K hK=>?_) AllReadyH.nil)
        obtain ⟨s0,s1,s2⟩:=hHeld
        refine step_store_row2 (w0:=w3) (B:=w3.heap.size) (b:=v1_.heap.size+1) (cs:=[.string d1,.string d2,.string d3]) (by rfl) 26 (.tmp 9) (.tmp 41) (by rfl) (by rfl) (by rfl) q9 (by rfl) (by simp) (by rfl) (by kernel_rfl) s2 (by omega) ?_
        intro W0 K0 G0 KP0 FR0 FB0
        replace r10:=FB0 _ _ (by omega) r10
        refine hK.out _ _ ⟨FB0 _ _ (by omega) s0,FB0 _ _ (by omega) s1,G0⟩ (fun hHeld=>?_)
        clear hK K s0 s1 s2
        try simp only [Act.put,lsx]
        refine wpAnyH_ready (rs:=[15]) (by kernel_rfl) (by simp) ?_
        refine (AllReadyH.cons rfl (fun K hK=>?_) AllReadyH.nil)
        obtain ⟨s0,s1,s2⟩:=hHeld
        refine step_store_row2 (w0:=w3) (B:=w3.heap.size) (b:=v1_.heap.size) (cs:=[.string m1,.string m2,.string m3]) (by rfl) 26 (.tmp 10) (.tmp 47) (by rfl) (by rfl) (by rfl) r10 (by rfl) (by simp) (by rfl) (by kernel_rfl) s2 (by omega) ?_
        intro W1 K1 G1 KP1 FR1 FB1
        refine hK.out _ _ ⟨FB1 _ _ (by omega) s0,FB1 _ _ (by omega) s1,G1⟩ (fun hHeld=>?_)
        clear hK K s0 s1 s2
        try simp only [Act.put,lsx]
        refine wpAnyH_done (by kernel_rfl) ?_ _
        go_wp2_with fail
        go_meet
        exact ⟨_,_,rfl,rfl,by omega,by omega,by omega,Lib.hid (FB1 _ _ (by omega) K0),Lib.hid K1,Lib.hid hHeld.2.1,hHeld.2.2⟩
      ·skip
       rw [if_pos (by rfl)]
       go_simp
       obtain ⟨s0,s1,s2⟩:=hHeld
       have q9 : Bk (v0_.alloc (.cells #[.string ⟨#[]⟩,.string ⟨#[]⟩,.string ⟨#[]⟩] 26)) (v0_.heap.size) [.string ⟨#[]⟩,.string ⟨#[]⟩,.string ⟨#[]⟩]:=bk_at (by simp)
       have zq9 : w3.heap.size≤v0_.heap.size:=by have:=s2.size; (try simp at this); omega
       refine hK.out _ _ ⟨s0.alloc _,s1.alloc _,ba s2⟩ (fun hHeld=>?_)
       clear s0 s1 s2 hK K
       try simp only [Act.put,lsx]
       refine wpAnyH_ready (rs:=[11,13]) (by kernel_rfl) (by simp) ?_
       refine (AllReadyH.cons rfl (fun K hK=>?_) (AllReadyH.cons rfl (fun K hK=>?_) AllReadyH.nil))
       ·skip
        rw [if_pos (by rfl)]
        go_wp2_with fail
        obtain ⟨s0,s1,s2⟩:=hHeld
        refine (HC2.out _ (hB3.below s2)).mono ?_
        rintro e v1_ ⟨rfl,g⟩
        replace q9:=Bk.below q9 g
        have s3 : Below w3.heap.size w3 _:=bn s2 g
        have y1:=g.size
        have yy1:=s3.size
        (try simp at y1)
        refine hK.out _ _ ⟨s0.below g,s1.below g,s3⟩ (fun hHeld=>?_)
        clear g s0 s1 s2 s3 hK K
        try simp only [Act.put,lsx]
        refine wpAnyH_ready (rs:=[13]) (by kernel_rfl) (by simp) ?_
        refine (AllReadyH.cons rfl (fun K hK=>?_) AllReadyH.nil)
        rw [if_pos (by rfl)]
        go_simp
        obtain ⟨s0,s1,s2⟩:=hHeld
        have r10 : Bk (v1_.alloc (.cells #[.string ⟨#[]⟩,.string ⟨#[]⟩,.string ⟨#[]⟩] 26)) (v1_.heap.size) [.string ⟨#[]⟩,.string ⟨#[]⟩,.string ⟨#[]⟩]:=bk_at (by simp)
        have zr10 : w3.heap.size≤v1_.heap.size:=by have:=s2.size; (try simp at this); omega
        replace q9:=Bk.alloc q9 (.cells #[.string ⟨#[]⟩,.string ⟨#[]⟩,.string ⟨#[]⟩] 26)
        refine hK.out _ _ ⟨s0.alloc _,s1.alloc _,ba s2⟩ (fun hHeld=>?_)
        clear s0 s1 s2 hK K
        try simp only [Act.put,lsx]
        refine wpAnyH_ready (rs:=[14]) (by kernel_rfl) (by simp) ?_
        refine (AllReadyH.cons rfl (fun K hK=>?_) AllReadyH.nil)
        obtain ⟨s0,s1,s2⟩:=hHeld
        refine step_store_row2 (w0:=w3) (B:=w3.heap.size) (b:=v0_.heap.size) (cs:=[.string d1,.string d2,.string d3]) (by rfl) 26 (.tmp 9) (.tmp 41) (by rfl) (by rfl) (by rfl) q9 (by rfl) (by simp) (by rfl) (by kernel_rfl) s2 (by omega) ?_
        intro W0 K0 G0 KP0 FR0 FB0
        replace r10:=FB0 _ _ (by omega) r10
        refine hK.out _ _ ⟨FB0 _ _ (by omega) s0,FB0 _ _ (by omega) s1,G0⟩ (fun hHeld=>?_)
        clear hK K s0 s1 s2
        try simp only [Act.put,lsx]
        refine wpAnyH_ready (rs:=[15]) (by kernel_rfl) (by simp) ?_
        refine (AllReadyH.cons rfl (fun K hK=>?_) AllReadyH.nil)
        obtain ⟨s0,s1,s2⟩:=hHeld
        refine step_store_row2 (w0:=w3) (B:=w3.heap.size) (b:=v1_.heap.size) (cs:=[.string m1,.string m2,.string m3]) (by rfl) 26 (.tmp 10) (.tmp 47) (by rfl) (by rfl) (by rfl) r10 (by rfl) (by simp) (by rfl) (by kernel_rfl) s2 (by omega) ?_
        intro W1 K1 G1 KP1 FR1 FB1
        refine hK.out _ _ ⟨FB1 _ _ (by omega) s0,FB1 _ _ (by omega) s1,G1⟩ (fun hHeld=>?_)
        clear hK K s0 s1 s2
        try simp only [Act.put,lsx]
        refine wpAnyH_done (by kernel_rfl) ?_ _
        go_wp2_with fail
        go_meet
        exact ⟨_,_,rfl,rfl,by omega,by omega,by omega,Lib.hid (FB1 _ _ (by omega) K0),Lib.hid K1,Lib.hid hHeld.2.1,hHeld.2.2⟩
       ·skip
        rw [if_pos (by rfl)]
        go_simp
        obtain ⟨s0,s1,s2⟩:=hHeld
        have r10 : Bk ((v0_.alloc (.cells #[.string ⟨#[]⟩,.string ⟨#[]⟩,.string ⟨#[]⟩] 26)).alloc (.cells #[.string ⟨#[]⟩,.string ⟨#[]⟩,.string ⟨#[]⟩] 26)) (v0_.heap.size+1) [.string ⟨#[]⟩,.string ⟨#[]⟩,.string ⟨#[]⟩]:=bk_at (by simp)
        have zr10 : w3.heap.size≤v0_.heap.size+1:=by have:=s2.size; (try simp at this); omega
        replace q9:=Bk.alloc q9 (.cells #[.string ⟨#[]⟩,.string ⟨#[]⟩,.string ⟨#[]⟩] 26)
        refine hK.out _ _ ⟨s0.alloc _,s1.alloc _,ba s2⟩ (fun hHeld=>?_)
        clear s0 s1 s2 hK K
        try simp only [Act.put,lsx]
        refine wpAnyH_ready (rs:=[11]) (by kernel_rfl) (by simp) ?_
        refine (AllReadyH.cons rfl (fun K hK=>?_) AllReadyH.nil)
        rw [if_pos (by rfl)]
        go_wp2_with fail
        obtain ⟨s0,s1,s2⟩:=hHeld
        refine (HC2.out _ (hB3.below s2)).mono ?_
        rintro e v1_ ⟨rfl,g⟩
        replace q9:=Bk.below q9 g
        replace r10:=Bk.below r10 g
        have s3 : Below w3.heap.size w3 _:=bn s2 g
        have y1:=g.size
        have yy1:=s3.size
        (try simp at y1)
        refine hK.out _ _ ⟨s0.below g,s1.below g,s3⟩ (fun hHeld=>?_)
        clear g s0 s1 s2 s3 hK K
        try simp only [Act.put,lsx]
        refine wpAnyH_ready (rs:=[14]) (by kernel_rfl) (by simp) ?_
        refine (AllReadyH.cons rfl (fun K hK=>?_) AllReadyH.nil)
        obtain ⟨s0,s1,s2⟩:=hHeld
        refine step_store_row2 (w0:=w3) (B:=w3.heap.size) (b:=v0_.heap.size) (cs:=[.string d1,.string d2,.string d3]) (by rfl) 26 (.tmp 9) (.tmp 41) (by rfl) (by rfl) (by rfl) q9 (by rfl) (by simp) (by rfl) (by kernel_rfl) s2 (by omega) ?_
        intro W0 K0 G0 KP0 FR0 FB0
        replace r10:=FB0 _ _ (by omega) r10
        refine hK.out _ _ ⟨FB0 _ _ (by omega) s0,FB0 _ _ (by omega) s1,G0⟩ (fun hHeld=>?_)
        clear hK K s0 s1 s2
        try simp only [Act.put,lsx]
        refine wpAnyH_ready (rs:=[15]) (by kernel_rfl) (by simp) ?_
        refine (AllReadyH.cons rfl (fun K hK=>?_) AllReadyH.nil)
        obtain ⟨s0,s1,s2⟩:=hHeld
        refine step_store_row2 (w0:=w3) (B:=w3.heap.size) (b:=v0_.heap.size+1) (cs:=[.string m1,.string m2,.string m3]) (by rfl) 26 (.tmp 10) (.tmp 47) (by rfl) (by rfl) (by rfl) r10 (by rfl) (by simp) (by rfl) (by kernel_rfl) s2 (by omega) ?_
        intro W1 K1 G1 KP1 FR1 FB1
        refine hK.out _ _ ⟨FB1 _ _ (by omega) s0,FB1 _ _ (by omega) s1,G1⟩ (fun hHeld=>?_)
        clear hK K s0 s1 s2
        try simp only [Act.put,lsx]
        refine wpAnyH_done (by kernel_rfl) ?_ _
        go_wp2_with fail
        go_meet
        exact ⟨_,_,rfl,rfl,by omega,by omega,by omega,Lib.hid (FB1 _ _ (by omega) K0),Lib.hid K1,Lib.hid hHeld.2.1,hHeld.2.2⟩
      ·skip
       rw [if_pos (by rfl)]
       go_simp
       obtain ⟨s0,s1,s2⟩:=hHeld
       have r10 : Bk (v0_.alloc (.cells #[.string ⟨#[]⟩,.string ⟨#[]⟩,.string ⟨#[]⟩] 26)) (v0_.heap.size) [.string ⟨#[]⟩,.string ⟨#[]⟩,.string ⟨#[]⟩]:=bk_at (by simp)
       have zr10 : w3.heap.size≤v0_.heap.size:=by have:=s2.size; (try simp at this); omega
       refine hK.out _ _ ⟨s0.alloc _,s1.alloc _,ba s2⟩ (fun hHeld=>?_)
       clear s0 s1 s2 hK K
       try simp only [Act.put,lsx]
       refine wpAnyH_ready (rs:=[11,12]) (by kernel_rfl) (by simp) ?_
       refine (AllReadyH.cons rfl (fun K hK=>?_) (AllReadyH.cons rfl (fun K hK=>?_) AllReadyH.nil))
       ·skip
        rw [if_pos (by rfl)]
        go_wp2_with fail
        obtain ⟨s0,s1,s2⟩:=hHeld
        refine (HC2.out _ (hB3.below s2)).mono ?_
        rintro e v1_ ⟨rfl,g⟩
        replace r10:=Bk.below r10 g
        have s3 : Below w3.heap.size w3 _:=bn s2 g
        have y1:=g.size
        have yy1:=s3.size
        (try simp at y1)
        refine hK.out _ _ ⟨s0.below g,s1.below g,s3⟩ (fun hHeld=>?_)
        clear g s0 s1 s2 s3 hK K
        try simp only [Act.put,lsx]
        refine wpAnyH_ready (rs:=[12]) (by kernel_rfl) (by simp) ?_
        refine (AllReadyH.cons rfl (fun K hK=>?_) AllReadyH.nil)
        rw [if_pos (by rfl)]
        go_simp
        obtain ⟨s0,s1,s2⟩:=hHeld
        have q9 : Bk (v1_.alloc (.cells #[.string ⟨#[]⟩,.string ⟨#[]⟩,.string ⟨#[]⟩] 26)) (v1_.heap.size) [.string ⟨#[]⟩,.string ⟨#[]⟩,.string ⟨#[]⟩]:=bk_at (by simp)
        have zq9 : w3.heap.size≤v1_.heap.size:=by have:=s2.size; (try simp at this); omega
        replace r10:=Bk.alloc r10 (.cells #[.string ⟨#[]⟩,.string ⟨#[]⟩,.string ⟨#[]⟩] 26)
        refine hK.out _ _ ⟨s0.alloc _,s1.alloc _,ba s2⟩ (fun hHeld=>?_)
        clear s0 s1 s2 hK K
        try simp only [Act.put,lsx]
        refine wpAnyH_ready (rs:=[14]) (by kernel_rfl) (by simp) ?_
        refine (AllReadyH.cons rfl (fun K hK=>?_) AllReadyH.nil)
        obtain ⟨s0,s1,s2⟩:=hHeld
        refine step_store_row2 (w0:=w3) (B:=w3.heap.size) (b:=v1_.heap.size) (cs:=[.string d1,.string d2,.string d3]) (by rfl) 26 (.tmp 9) (.tmp 41) (by rfl) (by rfl) (by rfl) q9 (by rfl) (by simp) (by rfl) (by kernel_rfl) s2 (by omega) ?_
        intro W0 K0 G0 KP0 FR0 FB0
        replace r10:=FB0 _ _ (by omega) r10
        refine hK.out _ _ ⟨FB0 _ _ (by omega) s0,FB0 _ _ (by omega) s1,G0⟩ (fun hHeld=>?_)
        clear hK K s0 s1 s2
        try simp only [Act.put,lsx]
        refine wpAnyH_ready (rs:=[15]) (by kernel_rfl) (by simp) ?_
        refine (AllReadyH.cons rfl (fun K hK=>?_) AllReadyH.nil)
        obtain ⟨s0,s1,s2⟩:=hHeld
        refine step_store_row2 (w0:=w3) (B:=w3.heap.size) (b:=v0_.heap.size) (cs:=[.string m1,.string m2,.string m3]) (by rfl) 26 (.tmp 10) (.tmp 47) (by rfl) (by rfl) (by rfl) r10 (by rfl) (by simp) (by rfl) (by kernel_rfl) s2 (by omega) ?_
        intro W1 K1 G1 KP1 FR1 FB1
        refine hK.out _ _ ⟨FB1 _ _ (by omega) s0,FB1 _ _ (by omega) s1,G1⟩ (fun hHeld=>?_)
        clear hK K s0 s1 s2
        try simp only [Act.put,lsx]
        refine wpAnyH_done (by kernel_rfl) ?_ _
        go_wp2_with fail
        go_meet
        exact ⟨_,_,rfl,rfl,by omega,by omega,by omega,Lib.hid (FB1 _ _ (by omega) K0),Lib.hid K1,Lib.hid hHeld.2.1,hHeld.2.2⟩
       ·skip
        rw [if_pos (by rfl)]
        go_simp
        obtain ⟨s0,s1,s2⟩:=hHeld
        have q9 : Bk ((v0_.alloc (.cells #[.string ⟨#[]⟩,.string ⟨#[]⟩,.string ⟨#[]⟩] 26)).alloc (.cells #[.string ⟨#[]⟩,.string ⟨#[]⟩,.string ⟨#[]⟩] 26)) (v0_.heap.size+1) [.string ⟨#[]⟩,.string ⟨#[]⟩,.string ⟨#[]⟩]:=bk_at (by simp)
        have zq9 : w3.heap.size≤v0_.heap.size+1:=by have:=s2.size; (try simp at this); omega
        replace r10:=Bk.alloc r10 (.cells #[.string ⟨#[]⟩,.string ⟨#[]⟩,.string ⟨#[]⟩] 26)
        refine hK.out _ _ ⟨s0.alloc _,s1.alloc _,ba s2⟩ (fun hHeld=>?_)
        clear s0 s1 s2 hK K
        try simp only [Act.put,lsx]
        refine wpAnyH_ready (rs:=[11]) (by kernel_rfl) (by simp) ?_
        refine (AllReadyH.cons rfl (fun K hK=>?_) AllReadyH.nil)
        rw [if_pos (by rfl)]
        go_wp2_with fail
        obtain ⟨s0,s1,s2⟩:=hHeld
        refine (HC2.out _ (hB3.below s2)).mono ?_
        rintro e v1_ ⟨rfl,g⟩
        replace q9:=Bk.below q9 g
        replace r10:=Bk.below r10 g
        have s3 : Below w3.heap.size w3 _:=bn s2 g
        have y1:=g.size
        have yy1:=s3.size
        (try simp at y1)
        refine hK.out _ _ ⟨s0.below g,s1.below g,s3⟩ (fun hHeld=>?_)
        clear g s0 s1 s2 s3 hK K
        try simp only [Act.put,lsx]
        refine wpAnyH_ready (rs:=[14]) (by kernel_rfl) (by simp) ?_
        refine (AllReadyH.cons rfl (fun K hK=>?_) AllReadyH.nil)
        obtain ⟨s0,s1,s2⟩:=hHeld
        refine step_store_row2 (w0:=w3) (B:=w3.heap.size) (b:=v0_.heap.size+1) (cs:=[.string d1,.string d2,.string d3]) (by rfl) 26 (.tmp 9) (.tmp 41) (by rfl) (by rfl) (by rfl) q9 (by rfl) (by simp) (by rfl) (by kernel_rfl) s2 (by omega) ?_
        intro W0 K0 G0 KP0 FR0 FB0
        replace r10:=FB0 _ _ (by omega) r10
        refine hK.out _ _ ⟨FB0 _ _ (by omega) s0,FB0 _ _ (by omega) s1,G0⟩ (fun hHeld=>?_)
        clear hK K s0 s1 s2
        try simp only [Act.put,lsx]
        refine wpAnyH_ready (rs:=[15]) (by kernel_rfl) (by simp) ?_
        refine (AllReadyH.cons rfl (fun K hK=>?_) AllReadyH.nil)
        obtain ⟨s0,s1,s2⟩:=hHeld
        refine step_store_row2 (w0:=w3) (B:=w3.heap.size) (b:=v0_.heap.size) (cs:=[.string m1,.string m2,.string m3]) (by rfl) 26 (.tmp 10) (.tmp 47) (by rfl) (by rfl) (by rfl) r10 (by rfl) (by simp) (by rfl) (by kernel_rfl) s2 (by omega) ?_
        intro W1 K1 G1 KP1 FR1 FB1
        refine hK.out _ _ ⟨FB1 _ _ (by omega) s0,FB1 _ _ (by omega) s1,G1⟩ (fun hHeld=>?_)
        clear hK K s0 s1 s2
        try simp only [Act.put,lsx]
        refine wpAnyH_done (by kernel_rfl) ?_ _
        go_wp2_with fail
        go_meet
        exact ⟨_,_,rfl,rfl,by omega,by omega,by omega,Lib.hid (FB1 _ _ (by omega) K0),Lib.hid K1,Lib.hid hHeld.2.1,hHeld.2.2⟩
     ·skip
      rw [if_pos (by rfl)]
      go_simp
      obtain ⟨s0,s1,s2⟩:=hHeld
      have q9 : Bk (w3.drew.alloc (.cells #[.string ⟨#[]⟩,.string ⟨#[]⟩,.string ⟨#[]⟩] 26)) (w3.heap.size) [.string ⟨#[]⟩,.string ⟨#[]⟩,.string ⟨#[]⟩]:=bk_at (by simp)
      have zq9 : w3.heap.size≤w3.heap.size:=by have:=s2.size; (try simp at this); omega
      refine hK.out _ _ ⟨s0.alloc _,s1.alloc _,ba s2⟩ (fun hHeld=>?_)
      clear s0 s1 s2 hK K
      try simp only [Act.put,lsx]
      refine wpAnyH_ready (rs:=[5,13]) (by kernel_rfl) (by simp) ?_
      refine (AllReadyH.cons rfl (fun K hK=>?_) (AllReadyH.cons rfl (fun K hK=>?_) AllReadyH.nil))
      ·skip
       rw [if_pos (by rfl)]
       go_wp2_with fail
       obtain ⟨s0,s1,s2⟩:=hHeld
       refine (HC1.out _ (hB3.below s2)).mono ?_
       rintro e v0_ ⟨rfl,g⟩
       replace q9:=Bk.below q9 g
       have s3 : Below w3.heap.size w3 _:=bn s2 g
       have y0:=g.size
       have yy0:=s3.size
       (try simp at y0)
       refine hK.out _ _ ⟨s0.below g,s1.below g,s3⟩ (fun hHeld=>?_)
       clear g s0 s1 s2 s3 hK K
       try simp only [Act.put,lsx]
       refine wpAnyH_ready (rs:=[11,13]) (by kernel_rfl) (by simp) ?_
       refine (AllReadyH.cons rfl (fun K hK=>?_) (AllReadyH.cons rfl (fun K hK=>?_) AllReadyH.nil))
       ·skip
        rw [if_pos (by rfl)]
        go_wp2_with fail
        obtain ⟨s0,s1,s2⟩:=hHeld
        refine (HC2.out _ (hB3.below s2)).mono ?_
        rintro e v1_ ⟨rfl,g⟩
        replace q9:=Bk.below q9 g
        have s3 : Below w3.heap.size w3 _:=bn s2 g
        have y1:=g.size
        have yy1:=s3.size
        (try simp at y1)
        refine hK.out _ _ ⟨s0.below g,s1.below g,s3⟩ (fun hHeld=>?_)
        clear g s0 s1 s2 s3 hK K
        try simp only [Act.put,lsx]
        refine wpAnyH_ready (rs:=[13]) (by kernel_rfl) (by simp) ?_
        refine (AllReadyH.cons rfl (fun K hK=>?_) AllReadyH.nil)
        rw [if_pos (by rfl)]
        go_simp
        obtain ⟨s0,s1,s2⟩:=hHeld
        have r10 : Bk (v1_.alloc (.cells #[.string ⟨#[]⟩,.string ⟨#[]⟩,.string ⟨#[]⟩] 26)) (v1_.heap.size) [.string ⟨#[]⟩,.string ⟨#[]⟩,.string ⟨#[]⟩]:=bk_at (by simp)
        have zr10 : w3.heap.size≤v1_.heap.size:=by have:=s2.size; (try simp at this); omega
        replace q9:=Bk.alloc q9 (.cells #[.string ⟨#[]⟩,.string ⟨#[]⟩,.string ⟨#[]⟩] 26)
        refine hK.out _ _ ⟨s0.alloc _,s1.alloc _,ba s2⟩ (fun hHeld=>?_)
        clear s0 s1 s2 hK K
        try simp only [Act.put,lsx]
        refine wpAnyH_ready (rs:=[14]) (by kernel_rfl) (by simp) ?_
        refine (AllReadyH.cons rfl (fun K hK=>?_) AllReadyH.nil)
        obtain ⟨s0,s1,s2⟩:=hHeld
        refine step_store_row2 (w0:=w3) (B:=w3.heap.size) (b:=w3.heap.size) (cs:=[.string d1,.string d2,.string d3]) (by rfl) 26 (.tmp 9) (.tmp 41) (by rfl) (by rfl) (by rfl) q9 (by rfl) (by simp) (by rfl) (by kernel_rfl) s2 (by omega) ?_
        intro W0 K0 G0 KP0 FR0 FB0
        replace r10:=FB0 _ _ (by omega) r10
        refine hK.out _ _ ⟨FB0 _ _ (by omega) s0,FB0 _ _ (by omega) s1,G0⟩ (fun hHeld=>?_)
        clear hK K s0 s1 s2
        try simp only [Act.put,lsx]
        refine wpAnyH_ready (rs:=[15]) (by kernel_rfl) (by simp) ?_
        refine (AllReadyH.cons rfl (fun K hK=>?_) AllReadyH.nil)
        obtain ⟨s0,s1,s2⟩:=hHeld
        refine step_store_row2 (w0:=w3) (B:=w3.heap.size) (b:=v1_.heap.size) (cs:=[.string m1,.string m2,.string m3]) (by rfl) 26 (.tmp 10) (.tmp 47) (by rfl) (by rfl) (by rfl) r10 (by rfl) (by simp) (by rfl) (by kernel_rfl) s2 (by omega) ?_
        intro W1 K1 G1 KP1 FR1 FB1
        refine hK.out _ _ ⟨FB1 _ _ (by omega) s0,FB1 _ _ (by omega) s1,G1⟩ (fun hHeld=>?_)
        clear hK K s0 s1 s2
        try simp only [Act.put,lsx]
        refine wpAnyH_done (by kernel_rfl) ?_ _
        go_wp2_with fail
        go_meet
        exact ⟨_,_,rfl,rfl,by omega,by omega,by omega,Lib.hid (FB1 _ _ (by omega) K0),Lib.hid K1,Lib.hid hHeld.2.1,hHeld.2.2⟩
       ·skip
        rw [if_pos (by rfl)]
        go_simp
        obtain ⟨s0,s1,s2⟩:=hHeld
        have r10 : Bk (v0_.alloc (.cells #[.string ⟨#[]⟩,.string ⟨#[]⟩,.string ⟨#[]⟩] 26)) (v0_.heap.size) [.string ⟨#[]⟩,.string ⟨#[]⟩,.string ⟨#[]⟩]:=bk_at (by simp)
        have zr10 : w3.heap.size≤v0_.heap.size:=by have:=s2.size; (try simp at this); omega
        replace q9:=Bk.alloc q9 (.cells #[.string ⟨#[]⟩,.string ⟨#[]⟩,.string ⟨#[]⟩] 26)
        refine hK.out _ _ ⟨s0.alloc _,s1.alloc _,ba s2⟩ (fun hHeld=>?_)
        clear s0 s1 s2 hK K
        try simp only [Act.put,lsx]
        refine wpAnyH_ready (rs:=[11]) (by kernel_rfl) (by simp) ?_
        refine (AllReadyH.cons rfl (fun K hK=>?_) AllReadyH.nil)
        rw [if_pos (by rfl)]
        go_wp2_with fail
        obtain ⟨s0,s1,s2⟩:=hHeld
        refine (HC2.out _ (hB3.below s2)).mono ?_
        rintro e v1_ ⟨rfl,g⟩
        replace q9:=Bk.below q9 g
        replace r10:=Bk.below r10 g
        have s3 : Below w3.heap.size w3 _:=bn s2 g
        have y1:=g.size
        have yy1:=s3.size
        (try simp at y1)
        refine hK.out _ _ ⟨s0.below g,s1.below g,s3⟩ (fun hHeld=>?_)
        clear g s0 s1 s2 s3 hK K
        try simp only [Act.put,lsx]
        refine wpAnyH_ready (rs:=[14]) (by kernel_rfl) (by simp) ?_
        refine (AllReadyH.cons rfl (fun K hK=>?_) AllReadyH.nil)
        obtain ⟨s0,s1,s2⟩:=hHeld
        refine step_store_row2 (w0:=w3) (B:=w3.heap.size) (b:=w3.heap.size) (cs:=[.string d1,.string d2,.string d3]) (by rfl) 26 (.tmp 9) (.tmp 41) (by rfl) (by rfl) (by rfl) q9 (by rfl) (by simp) (by rfl) (by kernel_rfl) s2 (by omega) ?_
        intro W0 K0 G0 KP0 FR0 FB0
        replace r10:=FB0 _ _ (by omega) r10
        refine hK.out _ _ ⟨FB0 _ _ (by omega) s0,FB0 _ _ (by omega) s1,G0⟩ (fun hHeld=>?_)
        clear hK K s0 s1 s2
        try simp only [Act.put,lsx]
        refine wpAnyH_ready (rs:=[15]) (by kernel_rfl) (by simp) ?_
        refine (AllReadyH.cons rfl (fun K hK=>?_) AllReadyH.nil)
        obtain ⟨s0,s1,s2⟩:=hHeld
        refine step_store_row2 (w0:=w3) (B:=w3.heap.size) (b:=v0_.heap.size) (cs:=[.string m1,.string m2,.string m3]) (by rfl) 26 (.tmp 10) (.tmp 47) (by rfl) (by rfl) (by rfl) r10 (by rfl) (by simp) (by rfl) (by kernel_rfl) s2 (by omega) ?_
        intro W1 K1 G1 KP1 FR1 FB1
        refine hK.out _ _ ⟨FB1 _ _ (by omega) s0,FB1 _ _ (by omega) s1,G1⟩ (fun hHeld=>?_)
        clear hK K s0 s1 s2
        try simp only [Act.put,lsx]
        refine wpAnyH_done (by kernel_rfl) ?_ _
        go_wp2_with fail
        go_meet
        exact ⟨_,_,rfl,rfl,by omega,by omega,by omega,Lib.hid (FB1 _ _ (by omega) K0),Lib.hid K1,Lib.hid hHeld.2.1,hHeld.2.2⟩
      ·skip
       rw [if_pos (by rfl)]
       go_simp
       obtain ⟨s0,s1,s2⟩:=hHeld
       have r10 : Bk ((w3.drew.alloc (.cells #[.string ⟨#[]⟩,.string ⟨#[]⟩,.string ⟨#[]⟩] 26)).alloc (.cells #[.string ⟨#[]⟩,.string ⟨#[]⟩,.string ⟨#[]⟩] 26)) (w3.heap.size+1) [.string ⟨#[]⟩,.string ⟨#[]⟩,.string ⟨#[]⟩]:=bk_at (by simp)
       have zr10 : w3.heap.size≤w3.heap.size+1:=by have:=s2.size; (try simp at this); omega
       replace q9:=Bk.alloc q9 (.cells #[.string ⟨#[]⟩,.string ⟨#[]⟩,.string ⟨#[]⟩] 26)
       refine hK.out _ _ ⟨s0.alloc _,s1.alloc _,ba s2⟩ (fun hHeld=>?_)
       clear s0 s1 s2 hK K
       try simp only [Act.put,lsx]
       refine wpAnyH_ready (rs:=[5]) (by kernel_rfl) (by simp) ?_
       refine (AllReadyH.cons rfl (fun K hK=>?_) AllReadyH.nil)
       rw [if_pos (by rfl)]
       go_wp2_with fail
       obtain ⟨s0,s1,s2⟩:=hHeld
       refine (HC1.out _ (hB3.below s2)).mono ?_
       rintro e v0_ ⟨rfl,g⟩
       replace q9:=Bk.below q9 g
       replace r10:=Bk.below r10 g
       have s3 : Below w3.heap.size w3 _:=bn s2 g
       have y0:=g.size
       have yy0:=s3.size
       (try simp at y0)
       refine hK.out _ _ ⟨s0.below g,s1.below g,s3⟩ (fun hHeld=>?_)
       clear g s0 s1 s2 s3 hK K
       try simp only [Act.put,lsx]
       refine wpAnyH_ready (rs:=[11]) (by kernel_rfl) (by simp) ?_
       refine (AllReadyH.cons rfl (fun K hK=>?_) AllReadyH.nil)
       rw [if_pos (by rfl)]
       go_wp2_with fail
       obtain ⟨s0,s1,s2⟩:=hHeld
       refine (HC2.out _ (hB3.below s2)).mono ?_
       rintro e v1_ ⟨rfl,g⟩
       replace q9:=Bk.below q9 g
       replace r10:=Bk.below r10 g
       have s3 : Below w3.heap.size w3 _:=bn s2 g
       have y1:=g.size
       have yy1:=s3.size
       (try simp at y1)
       refine hK.out _ _ ⟨s0.below g,s1.below g,s3⟩ (fun hHeld=>?_)
       clear g s0 s1 s2 s3 hK K
       try simp only [Act.put,lsx]
       refine wpAnyH_ready (rs:=[14]) (by kernel_rfl) (by simp) ?_
       refine (AllReadyH.cons rfl (fun K hK=>?_) AllReadyH.nil)
       obtain ⟨s0,s1,s2⟩:=hHeld
       refine step_store_row2 (w0:=w3) (B:=w3.heap.size) (b:=w3.heap.size) (cs:=[.string d1,.string d2,.string d3]) (by rfl) 26 (.tmp 9) (.tmp 41) (by rfl) (by rfl) (by rfl) q9 (by rfl) (by simp) (by rfl) (by kernel_rfl) s2 (by omega) ?_
       intro W0 K0 G0 KP0 FR0 FB0
       replace r10:=FB0 _ _ (by omega) r10
       refine hK.out _ _ ⟨FB0 _ _ (by omega) s0,FB0 _ _ (by omega) s1,G0⟩ (fun hHeld=>?_)
       clear hK K s0 s1 s2
       try simp only [Act.put,lsx]
       refine wpAnyH_ready (rs:=[15]) (by kernel_rfl) (by simp) ?_
       refine (AllReadyH.cons rfl (fun K hK=>?_) AllReadyH.nil)
       obtain ⟨s0,s1,s2⟩:=hHeld
       refine step_store_row2 (w0:=w3) (B:=w3.heap.size) (b:=w3.heap.size+1) (cs:=[.string m1,.string m2,.string m3]) (by rfl) 26 (.tmp 10) (.tmp 47) (by rfl) (by rfl) (by rfl) r10 (by rfl) (by simp) (by rfl) (by kernel_rfl) s2 (by omega) ?_
       intro W1 K1 G1 KP1 FR1 FB1
       refine hK.out _ _ ⟨FB1 _ _ (by omega) s0,FB1 _ _ (by omega) s1,G1⟩ (fun hHeld=>?_)
       clear hK K s0 s1 s2
       try simp only [Act.put,lsx]
       refine wpAnyH_done (by kernel_rfl) ?_ _
       go_wp2_with fail
       go_meet
       exact ⟨_,_,rfl,rfl,by omega,by omega,by omega,Lib.hid (FB1 _ _ (by omega) K0),Lib.hid K1,Lib.hid hHeld.2.1,hHeld.2.2⟩
     ·skip
      rw [if_pos (by rfl)]
      go_simp
      obtain ⟨s0,s1,s2⟩:=hHeld
      have r10 : Bk (w3.drew.alloc (.cells #[.string ⟨#[]⟩,.string ⟨#[]⟩,.string ⟨#[]⟩] 26)) (w3.heap.size) [.string ⟨#[]⟩,.string ⟨#[]⟩,.string ⟨#[]⟩]:=bk_at (by simp)
      have zr10 : w3.heap.size≤w3.heap.size:=by have:=s2.size; (try simp at this); omega
      refine hK.out _ _ ⟨s0.alloc _,s1.alloc _,ba s2⟩ (fun hHeld=>?_)
      clear s0 s1 s2 hK K
      try simp only [Act.put,lsx]
      refine wpAnyH_ready (rs:=[5,12]) (by kernel_rfl) (by simp) ?_
      refine (AllReadyH.cons rfl (fun K hK=>?_) (AllReadyH.cons rfl (fun K hK=>?_) AllReadyH.nil))
      ·skip
       rw [if_pos (by rfl)]
       go_wp2_with fail
       obtain ⟨s0,s1,s2⟩:=hHeld
       refine (HC1.out _ (hB3.below s2)).mono ?_
       rintro e v0_ ⟨rfl,g⟩
       replace r10:=Bk.below r10 g
       have s3 : Below w3.heap.size w3 _:=bn s2 g
       have y0:=g.size
       have yy0:=s3.size
       (try simp at y0)
       refine hK.out _ _ ⟨s0.below g,s1.below g,s3⟩ (fun hHeld=>?_)
       clear g s0 s1 s2 s3 hK K
       try simp only [Act.put,lsx]
       refine wpAnyH_ready (rs:=[11,12]) (by kernel_rfl) (by simp) ?_
       refine (AllReadyH.cons rfl (fun K hK=>?_) (AllReadyH.cons rfl (fun K hK=>?_) AllReadyH.nil))
       ·skip
        rw [if_pos (by rfl)]
        go_wp2_with fail
        obtain ⟨s0,s1,s2⟩:=hHeld
        refine (HC2.out _ (hB3.below s2)).mono ?_
        rintro e v1_ ⟨rfl,g⟩
        replace r10:=Bk.below r10 g
        have s3 : Below w3.heap.size w3 _:=bn s2 g
        have y1:=g.size
        have yy1:=s3.size
        (try simp at y1)
        refine hK.out _ _ ⟨s0.below g,s1.below g,s3⟩ (fun hHeld=>?_)
        clear g s0 s1 s2 s3 hK K
        try simp only [Act.put,lsx]
        refine wpAnyH_ready (rs:=[12]) (by kernel_rfl) (by simp) ?_
        refine (AllReadyH.cons rfl (fun K hK=>?_) AllReadyH.nil)
        rw [if_pos (by rfl)]
        go_simp
        obtain ⟨s0,s1,s2⟩:=hHeld
        have q9 : Bk (v1_.alloc (.cells #[.string ⟨#[]⟩,.string ⟨#[]⟩,.string ⟨#[]⟩] 26)) (v1_.heap.size) [.string ⟨#[]⟩,.string ⟨#[]⟩,.string ⟨#[]⟩]:=bk_at (by simp)
        have zq9 : w3.heap.size≤v1_.heap.size:=by have:=s2.size; (try simp at this); omega
        replace r10:=Bk.alloc r10 (.cells #[.string ⟨#[]⟩,.string ⟨#[]⟩,.string ⟨#[]⟩] 26)
        refine hK.out _ _ ⟨s0.alloc _,s1.alloc _,ba s2⟩ (fun hHeld=>?_)
        clear s0 s1 s2 hK K
        try simp only [Act.put,lsx]
        refine wpAnyH_ready (rs:=[14]) (by kernel_rfl) (by simp) ?_
        refine (AllReadyH.cons rfl (fun K hK=>?_) AllReadyH.nil)
        obtain ⟨s0,s1,s2⟩:=hHeld
        refine step_store_row2 (w0:=w3) (B:=w3.heap.size) (b:=v1_.heap.size) (cs:=[.string d1,.string d2,.string d3]) (by rfl) 26 (.tmp 9) (.tmp 41) (by rfl) (by rfl) (by rfl) q9 (by rfl) (by simp) (by rfl) (by kernel_rfl) s2 (by omega) ?_
        intro W0 K0 G0 KP0 FR0 FB0
        replace r10:=FB0 _ _ (by omega) r10
        refine hK.out _ _ ⟨FB0 _ _ (by omega) s0,FB0 _ _ (by omega) s1,G0⟩ (fun hHeld=>?_)
        clear hK K s0 s1 s2
        try simp only [Act.put,lsx]
        refine wpAnyH_ready (rs:=[15]) (by kernel_rfl) (by simp) ?_
        refine (AllReadyH.cons rfl (fun K hK=>?_) AllReadyH.nil)
        obtain ⟨s0,s1,s2⟩:=hHeld
        refine step_store_row2 (w0:=w3) (B:=w3.heap.size) (b:=w3.heap.size) (cs:=[.string m1,.string m2,.string m3]) (by rfl) 26 (.tmp 10) (.tmp 47) (by rfl) (by rfl) (by rfl) r10 (by rfl) (by simp) (by rfl) (by kernel_rfl) s2 (by omega) ?_
        intro W1 K1 G1 KP1 FR1 FB1
        refine hK.out _ _ ⟨FB1 _ _ (by omega) s0,FB1 _ _ (by omega) s1,G1⟩ (fun hHeld=>?_)
        clear hK K s0 s1 s2
        try simp only [Act.put,lsx]
        refine wpAnyH_done (by kernel_rfl) ?_ _
        go_wp2_with fail
        go_meet
        exact ⟨_,_,rfl,rfl,by omega,by omega,by omega,Lib.hid (FB1 _ _ (by omega) K0),Lib.hid K1,Lib.hid hHeld.2.1,hHeld.2.2⟩
       ·skip
        rw [if_pos (by rfl)]
        go_simp
        obtain ⟨s0,s1,s2⟩:=hHeld
        have q9 : Bk (v0_.alloc (.cells #[.string ⟨#[]⟩,.string ⟨#[]⟩,.string ⟨#[]⟩] 26)) (v0_.heap.size) [.string ⟨#[]⟩,.string ⟨#[]⟩,.string ⟨#[]⟩]:=bk_at (by simp)
        have zq9 : w3.heap.size≤v0_.heap.size:=by have:=s2.size; (try simp at this); omega
        replace r10:=Bk.alloc r10 (.cells #[.string ⟨#[]⟩,.string ⟨#[]⟩,.string ⟨#[]⟩] 26)
        refine hK.out _ _ ⟨s0.alloc _,s1.alloc _,ba s2⟩ (fun hHeld=>?_)
        clear s0 s1 s2 hK K
        try simp only [Act.put,lsx]
        refine wpAnyH_ready (rs:=[11]) (by kernel_rfl) (by simp) ?_
        refine (AllReadyH.cons rfl (fun K hK=>?_) AllReadyH.nil)
        rw [if_pos (by rfl)]
        go_wp2_with fail
        obtain ⟨s0,s1,s2⟩:=hHeld
        refine (HC2.out _ (hB3.below s2)).mono ?_
        rintro e v1_ ⟨rfl,g⟩
        replace q9:=Bk.below q9 g
        replace r10:=Bk.below r10 g
        have s3 : Below w3.heap.size w3 _:=bn s2 g
        have y1:=g.size
        have yy1:=s3.size
        (try simp at y1)
        refine hK.out _ _ ⟨s0.below g,s1.below g,s3⟩ (fun hHeld=>?_)
        clear g s0 s1 s2 s3 hK K
        try simp only [Act.put,lsx]
        refine wpAnyH_ready (rs:=[14]) (by kernel_rfl) (by simp) ?_
        refine (AllReadyH.cons rfl (fun K hK=>?_) AllReadyH.nil)
        obtain ⟨s0,s1,s2⟩:=hHeld
        refine step_store_row2 (w0:=w3) (B:=w3.heap.size) (b:=v0_.heap.size) (cs:=[.string d1,.string d2,.string d3]) (by rfl) 26 (.tmp 9) (.tmp 41) (by rfl) (by rfl) (by rfl) q9 (by rfl) (by simp) (by rfl) (by kernel_rfl) s2 (by omega) ?_
        intro W0 K0 G0 KP0 FR0 FB0
        replace r10:=FB0 _ _ (by omega) r10
        refine hK.out _ _ ⟨FB0 _ _ (by omega) s0,FB0 _ _ (by omega) s1,G0⟩ (fun hHeld=>?_)
        clear hK K s0 s1 s2
        try simp only [Act.put,lsx]
        refine wpAnyH_ready (rs:=[15]) (by kernel_rfl) (by simp) ?_
        refine (AllReadyH.cons rfl (fun K hK=>?_) AllReadyH.nil)
        obtain ⟨s0,s1,s2⟩:=hHeld
        refine step_store_row2 (w0:=w3) (B:=w3.heap.size) (b:=w3.heap.size) (cs:=[.string m1,.string m2,.string m3]) (by rfl) 26 (.tmp 10) (.tmp 47) (by rfl) (by rfl) (by rfl) r10 (by rfl) (by simp) (by rfl) (by kernel_rfl) s2 (by omega) ?_
        intro W1 K1 G1 KP1 FR1 FB1
        refine hK.out _ _ ⟨FB1 _ _ (by omega) s0,FB1 _ _ (by omega) s1,G1⟩ (fun hHeld=>?_)
        clear hK K s0 s1 s2
        try simp only [Act.put,lsx]
        refine wpAnyH_done (by kernel_rfl) ?_ _
        go_wp2_with fail
        go_meet
        exact ⟨_,_,rfl,rfl,by omega,by omega,by omega,Lib.hid (FB1 _ _ (by omega) K0),Lib.hid K1,Lib.hid hHeld.2.1,hHeld.2.2⟩
      ·skip
       rw [if_pos (by rfl)]
       go_simp
       obtain ⟨s0,s1,s2⟩:=hHeld
       have q9 : Bk ((w3.drew.alloc (.cells #[.string ⟨#[]⟩,.string ⟨#[]⟩,.string ⟨#[]⟩] 26)).alloc (.cells #[.string ⟨#[]⟩,.string ⟨#[]⟩,.string ⟨#[]⟩] 26)) (w3.heap.size+1) [.string ⟨#[]⟩,.string ⟨#[]⟩,.string ⟨#[]⟩]:=bk_at (by simp)
       have zq9 : w3.heap.size≤w3.heap.size+1:=by have:=s2.size; (try simp at this); omega
       replace r10:=Bk.alloc r10 (.cells #[.string ⟨#[]⟩,.string ⟨#[]⟩,.string ⟨#[]⟩] 26)
       refine hK.out _ _ ⟨s0.alloc _,s1.alloc _,ba s2⟩ (fun hHeld=>?_)
       clear s0 s1 s2 hK K
       try simp only [Act.put,lsx]
       refine wpAnyH_ready (rs:=[5]) (by kernel_rfl) (by simp) ?_
       refine (AllReadyH.cons rfl (fun K hK=>?_) AllReadyH.nil)
       rw [if_pos (by rfl)]
       go_wp2_with fail
       obtain ⟨s0,s1,s2⟩:=hHeld
       refine (HC1.out _ (hB3.below s2)).mono ?_
       rintro e v0_ ⟨rfl,g⟩
       replace q9:=Bk.below q9 g
       replace r10:=Bk.below r10 g
       have s3 : Below w3.heap.size w3 _:=bn s2 g
       have y0:=g.size
       have yy0:=s3.size
       (try simp at y0)
       refine hK.out _ _ ⟨s0.below g,s1.below g,s3⟩ (fun hHeld=>?_)
       clear g s0 s1 s2 s3 hK K
       try simp only [Act.put,lsx]
       refine wpAnyH_ready (rs:=[11]) (by kernel_rfl) (by simp) ?_
       refine (AllReadyH.cons rfl (fun K hK=>?_) AllReadyH.nil)
       rw [if_pos (by rfl)]
       go_wp2_with fail
       obtain ⟨s0,s1,s2⟩:=hHeld
       refine (HC2.out _ (hB3.below s2)).mono ?_
       rintro e v1_ ⟨rfl,g⟩
       replace q9:=Bk.below q9 g
       replace r10:=Bk.below r10 g
       have s3 : Below w3.heap.size w3 _:=bn s2 g
       have y1:=g.size
       have yy1:=s3.size
       (try simp at y1)
       refine hK.out _ _ ⟨s0.below g,s1.below g,s3⟩ (fun hHeld=>?_)
       clear g s0 s1 s2 s3 hK K
       try simp only [Act.put,lsx]
       refine wpAnyH_ready (rs:=[14]) (by kernel_rfl) (by simp) ?_
       refine (AllReadyH.cons rfl (fun K hK=>?_) AllReadyH.nil)
       obtain ⟨s0,s1,s2⟩:=hHeld
       refine step_store_row2 (w0:=w3) (B:=w3.heap.size) (b:=w3.heap.size+1) (cs:=[.string d1,.string d2,.string d3]) (by rfl) 26 (.tmp 9) (.tmp 41) (by rfl) (by rfl) (by rfl) q9 (by rfl) (by simp) (by rfl) (by kernel_rfl) s2 (by omega) ?_
       intro W0 K0 G0 KP0 FR0 FB0
       replace r10:=FB0 _ _ (by omega) r10
       refine hK.out _ _ ⟨FB0 _ _ (by omega) s0,FB0 _ _ (by omega) s1,G0⟩ (fun hHeld=>?_)
       clear hK K s0 s1 s2
       try simp only [Act.put,lsx]
       refine wpAnyH_ready (rs:=[15]) (by kernel_rfl) (by simp) ?_
       refine (AllReadyH.cons rfl (fun K hK=>?_) AllReadyH.nil)
       obtain ⟨s0,s1,s2⟩:=hHeld
       refine step_store_row2 (w0:=w3) (B:=w3.heap.size) (b:=w3.heap.size) (cs:=[.string m1,.string m2,.string m3]) (by rfl) 26 (.tmp 10) (.tmp 47) (by rfl) (by rfl) (by rfl) r10 (by rfl) (by simp) (by rfl) (by kernel_rfl) s2 (by omega) ?_
       intro W1 K1 G1 KP1 FR1 FB1
       refine hK.out _ _ ⟨FB1 _ _ (by omega) s0,FB1 _ _ (by omega) s1,G1⟩ (fun hHeld=>?_)
       clear hK K s0 s1 s2
       try simp only [Act.put,lsx]
       refine wpAnyH_done (by kernel_rfl) ?_ _
       go_wp2_with fail
       go_meet
       exact ⟨_,_,rfl,rfl,by omega,by omega,by omega,Lib.hid (FB1 _ _ (by omega) K0),Lib.hid K1,Lib.hid hHeld.2.1,hHeld.2.2⟩
    case rest =>
     obtain ⟨p9,p10,rfl,rfl,hp9,hp10,hne,H9,H10,HT3,BC⟩:=hcut
     obtain ⟨w4,hWW⟩ : ∃ x,x=wc:=⟨_,rfl⟩
     subst hWW
     have BB4 : Below wr.heap.size wr w4:=bn BB3 BC
     have hws:=BB3.size
     have HJ4:=Lib.hid (HJ.out _ _ _ hjk BB4)
     have HX4:=Lib.hid (HX1.out.trans (Kx.below HX.out HXN.out hcw BB4))
     have OT:=Lib.hid (Bo.new HX.out hcw BB4 HT3.out (Nat.le_refl _))
     have O9:=Lib.hid (Bo.new HX.out hcw BB4 H9.out (by omega))
     have O10:=Lib.hid (Bo.new HX.out hcw BB4 H10.out (by omega))
     have KF4:=HO3.out.bk.below BB4
     have e34:=KF4.cell 0 _ rfl
     have hlf:=KF4.lt
     obtain ⟨x0,x1,x2, -⟩:=H9.out.c3
     obtain ⟨y0,y1,y2, -⟩:=H10.out.c3
     have hl9:=H9.out.lt
     have hl10:=H10.out.lt
     have HL4 : Hid ((((L.take k).flatMap (pcs p))++(edgeA p a b' c f).map (Sum.inr (α:=Tr V3 × Bool))).length≤4 * k+1∧((L.take k).flatMap (pcs p)).length≤4 * k):=Lib.hid ⟨by
      rw [List.length_append,List.length_map]
      have:=HPL.out
      have:=edge_len p a b' c f
      omega,HPL.out⟩
     clear hjk BB3 BB4 BC KT3 KP3 hB3 hcw hbw hBr HT3 H9 H10 KF4 HC1 HC2 HPL HO2 HX1 z3 z4 e3 t0 t1 t2 t3 t4 t5 t6 t7 t8 hl2 hl3 hws hp9 hp10
     gi_step
     gi_step
     refine wpIn_wide.2 ?_
     go_cut [] (fun wx=>Hid (J ((L.take k).flatMap (pcs p)++(edgeA p a b' c f).map (Sum.inr (α:=Tr V3 × Bool))) wx)∧Hid (Kx X w4 wx))
     case first =>
      have q1:=HEQ.out
      cases bb
      ·cases f
       ·have HM:=Lib.hid (HED2.out rfl)
        go_wp2_with fail
        refine (callsIn_wide.1 (HE2.out _ _ HJ4.out (by have:=HL4.out.2; have:=HN.out; omega))).mono ?_
        rintro e W3 ⟨⟨v,rfl⟩,hJ3,hk3⟩
        have HJ5:=Lib.hid hJ3
        have HK5:=Lib.hid hk3
        clear hJ3 hk3
        go_wp2
        go_meet
        exact ⟨Lib.hid (by rw [HM.out]; exact HJ5.out),HK5⟩
       ·have HM:=Lib.hid (HED2.out rfl)
        go_wp2_with fail
        refine (callsIn_wide.1 (HE1.out _ _ HJ4.out (by have:=HL4.out.2; have:=HN.out; omega))).mono ?_
        rintro e W3 ⟨⟨v,rfl⟩,hJ3,hk3⟩
        have HJ5:=Lib.hid hJ3
        have HK5:=Lib.hid hk3
        clear hJ3 hk3
        go_wp2
        go_meet
        exact ⟨Lib.hid (by rw [HM.out]; exact HJ5.out),HK5⟩
      ·have HM:=Lib.hid (HED1.out rfl)
       go_wp2
       go_meet
       exact ⟨Lib.hid (by rw [HM.out,List.map_nil,List.append_nil]; exact HJ4.out),Lib.hid (Kx.refl _ _)⟩
     case rest =>
      obtain ⟨HJ5,HK5⟩:=hcut
      obtain ⟨w5,hWW⟩ : ∃ x,x=wc:=⟨_,rfl⟩
      subst hWW
      have O9b:=O9.out.kx HK5.out
      have O10b:=O10.out.kx HK5.out
      have OTb:=OT.out.kx HK5.out
      have HX5:=Lib.hid (HX4.out.trans HK5.out)
      clear O9 O10 OT HX4 HK5 HJ4 x0 x1 x2 y0 y1 y2 hl9 hl10 HED1 HED2 HEQ HE1 HE2 hlf e34
      obtain ⟨x0,x1,x2, -⟩:=O9b.bk.c3
      obtain ⟨y0,y1,y2, -⟩:=O10b.bk.c3
      obtain ⟨⟨a0,a1,a2,a3,a4,a5,a6,a7,a8⟩, -⟩:=OTb.bk.c9
      have hl9:=O9b.bk.lt
      have hl10:=O10b.bk.lt
      have hlt3:=OTb.bk.lt
      gi_wp2_with fail
      obtain ⟨w6,hW6⟩ : ∃ x,x=w5.alloc (.cells #[.string (rtx a.x),.string (rtx a.y),.string (rtx a.z),.string d1,.string d2,.string d3,.string m1,.string m2,.string m3,.bool f,.string d1,.string d2,.string d3,.string (rtx b'.x),.string (rtx b'.y),.string (rtx b'.z),.string (rtx c.x),.string (rtx c.y),.string (rtx c.z),.bool (!f),.string d1,.string d2,.string d3,.string (rtx c.x),.string (rtx c.y),.string (rtx c.z),.string m1,.string m2,.string m3,.bool (!f)] 144):=⟨_,rfl⟩
      rw [← hW6]
      have hc5:=HCJ.out _ _ HJ5.out
      have B56 : Below w5.heap.size w5 w6:=by rw [hW6]; exact ba (br _)
      have OS0 : Bo X w6 w5.heap.size [.string (rtx a.x),.string (rtx a.y),.string (rtx a.z),.string d1,.string d2,.string d3,.string m1,.string m2,.string m3,.bool f,.string d1,.string d2,.string d3,.string (rtx b'.x),.string (rtx b'.y),.string (rtx b'.z),.string (rtx c.x),.string (rtx c.y),.string (rtx c.z),.bool (!f),.string d1,.string d2,.string d3,.string (rtx c.x),.string (rtx c.y),.string (rtx c.z),.string m1,.string m2,.string m3,.bool (!f)]:=Bo.new HX.out hc5 B56 (by rw [hW6]; exact bk_at rfl) (Nat.le_refl _)
      have HJ6:=Lib.hid (HJ.out _ _ _ HJ5.out B56)
      have HX6:=Lib.hid (HX5.out.trans (Kx.below HX.out HXN.out hc5 B56))
      clear hW6 hc5 B56 HJ5 HX5 x0 x1 x2 y0 y1 y2 a0 a1 a2 a3 a4 a5 a6 a7 a8 O9b O10b OTb hl9 hl10 hlt3
      refine wpIn_loop_rounds 4 ?_
      rw [roundsIn_succ]
      have ss0 : w6.cell? ⟨w5.heap.size,0,none⟩=some (.string (rtx a.x)):=OS0.bk.cell 0 _ rfl
      have ss1 : w6.cell? ⟨w5.heap.size,1,none⟩=some (.string (rtx a.y)):=OS0.bk.cell 1 _ rfl
      have ss2 : w6.cell? ⟨w5.heap.size,2,none⟩=some (.string (rtx a.z)):=OS0.bk.cell 2 _ rfl
      have ss3 : w6.cell? ⟨w5.heap.size,3,none⟩=some (.string d1):=OS0.bk.cell 3 _ rfl
      have ss4 : w6.cell? ⟨w5.heap.size,4,none⟩=some (.string d2):=OS0.bk.cell 4 _ rfl
      have ss5 : w6.cell? ⟨w5.heap.size,5,none⟩=some (.string d3):=OS0.bk.cell 5 _ rfl
      have ss6 : w6.cell? ⟨w5.heap.size,6,none⟩=some (.string m1):=OS0.bk.cell 6 _ rfl
      have ss7 : w6.cell? ⟨w5.heap.size,7,none⟩=some (.string m2):=OS0.bk.cell 7 _ rfl
      have ss8 : w6.cell? ⟨w5.heap.size,8,none⟩=some (.string m3):=OS0.bk.cell 8 _ rfl
      have ss9 : w6.cell? ⟨w5.heap.size,9,none⟩=some (.bool f):=OS0.bk.cell 9 _ rfl
      have hls:=OS0.bk.lt
      have hc0:=HCJ.out _ _ HJ6.out
      have hB0 : Below w6.heap.size w6 (w6.alloc (.cells #[.string (rtx a.x),.string (rtx a.y),.string (rtx a.z),.string d1,.string d2,.string d3,.string m1,.string m2,.string m3,.bool f] 144)):=ba (br _)
      have OA:=Lib.hid (Bo.below HX.out hc0 hB0 OS0)
      have XA:=Lib.hid (HX6.out.trans (Kx.below HX.out HXN.out hc0 hB0))
      obtain ⟨fn,tmps,assign,body,hy,hR⟩:=HY1.out _ _ (HJ.out _ _ _ HJ6.out hB0) (by (try simp only [List.length_append,List.length_cons,List.length_nil]); have h1:=HL4.out.1; have h2:=HN.out; (try rw [List.length_append] at h1); omega)
      clear hc0 hB0 HJ6 HX6 OS0
      gi_wp2
      refine hR.mono ?_
      rintro e w7 ⟨rfl,hJ,hk⟩
      have HJ7:=Lib.hid hJ
      have OS1:=OA.out.kx hk
      have HX7:=Lib.hid (XA.out.trans hk)
      clear hJ hk OA XA hy hR hls ss0 ss1 ss2 ss3 ss4 ss5 ss6 ss7 ss8 ss9
      gi_wp2_with fail
      rw [roundsIn_succ]
      have ss0 : w7.cell? ⟨w5.heap.size,10,none⟩=some (.string d1):=OS1.bk.cell 10 _ rfl
      have ss1 : w7.cell? ⟨w5.heap.size,11,none⟩=some (.string d2):=OS1.bk.cell 11 _ rfl
      have ss2 : w7.cell? ⟨w5.heap.size,12,none⟩=some (.string d3):=OS1.bk.cell 12 _ rfl
      have ss3 : w7.cell? ⟨w5.heap.size,13,none⟩=some (.string (rtx b'.x)):=OS1.bk.cell 13 _ rfl
      have ss4 : w7.cell? ⟨w5.heap.size,14,none⟩=some (.string (rtx b'.y)):=OS1.bk.cell 14 _ rfl
      have ss5 : w7.cell? ⟨w5.heap.size,15,none⟩=some (.string (rtx b'.z)):=OS1.bk.cell 15 _ rfl
      have ss6 : w7.cell? ⟨w5.heap.size,16,none⟩=some (.string (rtx c.x)):=OS1.bk.cell 16 _ rfl
      have ss7 : w7.cell? ⟨w5.heap.size,17,none⟩=some (.string (rtx c.y)):=OS1.bk.cell 17 _ rfl
      have ss8 : w7.cell? ⟨w5.heap.size,18,none⟩=some (.string (rtx c.z)):=OS1.bk.cell 18 _ rfl
      have ss9 : w7.cell? ⟨w5.heap.size,19,none⟩=some (.bool (!f)):=OS1.bk.cell 19 _ rfl
      have hls:=OS1.bk.lt
      have hc1:=HCJ.out _ _ HJ7.out
      have hB1 : Below w7.heap.size w7 (w7.alloc (.cells #[.string d1,.string d2,.string d3,.string (rtx b'.x),.string (rtx b'.y),.string (rtx b'.z),.string (rtx c.x),.string (rtx c.y),.string (rtx c.z),.bool (!f)] 144)):=ba (br _)
      have OA:=Lib.hid (Bo.below HX.out hc1 hB1 OS1)
      have XA:=Lib.hid (HX7.out.trans (Kx.below HX.out HXN.out hc1 hB1))
      obtain ⟨fn,tmps,assign,body,hy,hR⟩:=HY2.out _ _ (HJ.out _ _ _ HJ7.out hB1) (by (try simp only [List.length_append,List.length_cons,List.length_nil]); have h1:=HL4.out.1; have h2:=HN.out; (try rw [List.length_append] at h1); omega)
      clear hc1 hB1 HJ7 HX7 OS1
      gi_wp2
      refine hR.mono ?_
      rintro e w8 ⟨rfl,hJ,hk⟩
      have HJ8:=Lib.hid hJ
      have OS2:=OA.out.kx hk
      have HX8:=Lib.hid (XA.out.trans hk)
      clear hJ hk OA XA hy hR hls ss0 ss1 ss2 ss3 ss4 ss5 ss6 ss7 ss8 ss9
      gi_wp2_with fail
      rw [roundsIn_succ]
      have ss0 : w8.cell? ⟨w5.heap.size,20,none⟩=some (.string d1):=OS2.bk.cell 20 _ rfl
      have ss1 : w8.cell? ⟨w5.heap.size,21,none⟩=some (.string d2):=OS2.bk.cell 21 _ rfl
      have ss2 : w8.cell? ⟨w5.heap.size,22,none⟩=some (.string d3):=OS2.bk.cell 22 _ rfl
      have ss3 : w8.cell? ⟨w5.heap.size,23,none⟩=some (.string (rtx c.x)):=OS2.bk.cell 23 _ rfl
      have ss4 : w8.cell? ⟨w5.heap.size,24,none⟩=some (.string (rtx c.y)):=OS2.bk.cell 24 _ rfl
      have ss5 : w8.cell? ⟨w5.heap.size,25,none⟩=some (.string (rtx c.z)):=OS2.bk.cell 25 _ rfl
      have ss6 : w8.cell? ⟨w5.heap.size,26,none⟩=some (.string m1):=OS2.bk.cell 26 _ rfl
      have ss7 : w8.cell? ⟨w5.heap.size,27,none⟩=some (.string m2):=OS2.bk.cell 27 _ rfl
      have ss8 : w8.cell? ⟨w5.heap.size,28,none⟩=some (.string m3):=OS2.bk.cell 28 _ rfl
      have ss9 : w8.cell? ⟨w5.heap.size,29,none⟩=some (.bool (!f)):=OS2.bk.cell 29 _ rfl
      have hls:=OS2.bk.lt
      have hc2:=HCJ.out _ _ HJ8.out
      have hB2 : Below w8.heap.size w8 (w8.alloc (.cells #[.string d1,.string d2,.string d3,.string (rtx c.x),.string (rtx c.y),.string (rtx c.z),.string m1,.string m2,.string m3,.bool (!f)] 144)):=ba (br _)
      have OA:=Lib.hid (Bo.below HX.out hc2 hB2 OS2)
      have XA:=Lib.hid (HX8.out.trans (Kx.below HX.out HXN.out hc2 hB2))
      obtain ⟨fn,tmps,assign,body,hy,hR⟩:=HY3.out _ _ (HJ.out _ _ _ HJ8.out hB2) (by (try simp only [List.length_append,List.length_cons,List.length_nil]); have h1:=HL4.out.1; have h2:=HN.out; (try rw [List.length_append] at h1); omega)
      clear hc2 hB2 HJ8 HX8 OS2
      gi_wp2
      refine hR.mono ?_
      rintro e w9 ⟨rfl,hJ,hk⟩
      have HJ9:=Lib.hid hJ
      have OS3:=OA.out.kx hk
      have HX9:=Lib.hid (XA.out.trans hk)
      clear hJ hk OA XA hy hR hls ss0 ss1 ss2 ss3 ss4 ss5 ss6 ss7 ss8 ss9
      gi_wp2_with fail
      rw [roundsIn_succ]
      gi_wp2
      go_roundw
      case rel=>exact ⟨k+1,by omega,by go_num,by rw [HPS.out]; simpa [pcs3,lone] using HJ9.out,HX9.out⟩
      case measure=>simp [intOf]; omega
  ·obtain rfl : k=n:=by omega
   rw [HTE.out] at hjk
   gi_wp2
   go_end0
   exact ⟨⟨_,rfl⟩,hjk⟩
end Go.Proofs.YtopfedbhkfdjkaaGreatDoor


/- A region that draws its order within a round of a range over a function: by the plain laws. -/
namespace Go.Proofs.YtopfedbhkfdjkaaGreatDoor
open Go Go.RowKit
def noDefer (ops : Array Oper) : Bool:=ops.all fun o=>match o.op with | .defer _=>false | _=>true
theorem noDefer_spec {ops : Array Oper} (h : noDefer ops=true) {i : Nat} {o : Oper} (ho : ops[i]?=some o) (c : Call) : o.op≠.defer c:=by
 intro e
 have:=(Array.all_eq_true.1 h) i (Array.getElem?_eq_some_iff.1 ho).1
 rw [(Array.getElem?_eq_some_iff.1 ho).2,e] at this
 cases this
section
variable {P : Program} {ops : Array Oper} {Q : Exit→Act→World→Prop} {md : Region.Mode} {n l : Nat}
theorem oper_round {o : Oper} (ho : ∀ c,o.op≠.defer c) {a : Act} {w : World} {K : Act→World→Prop} (h : o.wp P a w K Q) : o.wpIn (Fence.wide.inRound l) n P a w K Q:=by
 refine ⟨fun _ _=>trivial, ?_⟩
 rw [show (Fence.wide.inRound l).round=some l from rfl,Oper.semAt_some l a.eval o ho]
 unfold Oper.wp at h
 generalize (execOp a.eval o).run P w=r at *
 cases r with
 | ok x w' =>
  cases x<;>simp only [Oper.upon,Oper.uponIn] at h ⊢
  case value=>exact h
  case skip=>exact h
  case defer=>exact h
  case enter f args=>exact ⟨fun h=>by simp [Fence.wide] at h,CallsIn.inRound l (callsIn_wide.2 h)⟩
  case row row args =>
   refine ⟨fun h=>by simp [Fence.wide] at h,fun c cs _=>?_⟩
   obtain ⟨v,w2,r,s⟩:=h c cs
   exact ⟨v,w2,r,stepsIn_wide.2 s⟩
 | halt x w'=>cases x<;>simp only [Oper.upon,Oper.uponIn] at h ⊢; exact h
theorem wpOp_round (hd : noDefer ops=true) (hQ : ¬ LetsOut Q) {i : Nat} {K : Act→World→Prop} {a : Act} {w : World} (h : wpOp P ops Q i K a w) : wpOpIn (Fence.wide.inRound l) n P ops Q i K a w:=by
 unfold wpOp at h
 unfold wpOpIn
 cases ho : ops[i]? with
 | none=>rw [ho] at h; exact h
 | some o =>
  simp only [ho] at h ⊢
  by_cases hw : Region.wanted o (yielded ops a.tmps)=true
  ·rw [if_pos hw] at h ⊢
   rcases h with h | ⟨_,h⟩
   ·exact oper_round (fun c=>noDefer_spec hd ho c) h
   ·exact absurd h hQ
  ·rw [if_neg hw] at h ⊢
   exact ⟨fun _ _=>trivial,h⟩
theorem wpAny_round (hd : noDefer ops=true) (hQ : ¬ LetsOut Q) : ∀ (fuel : Nat) (listed : Array Bool) (a : Act) (w : World),wpAny P md ops Q fuel listed a w→wpAnyIn (Fence.wide.inRound l) n P md ops Q fuel listed a w
 | 0,_,_,_,h=>h
 | fuel+1,_,_,_,h=>⟨h.1,fun i hi=>wpOpIn_mono (fun a' w' h'=>wpAny_round hd hQ fuel _ a' w' h') (wpOp_round hd hQ (h.2 i hi))⟩
theorem round_region_any {id : Nat} {a : Act} {w : World} (hm : P.follows .mixedOrders=true) (hd : noDefer ops=true) (hQ : ¬ LetsOut Q)
  (h : wpAny P .any ops Q ops.size (Array.replicate ops.size false) a w.drew) : (Code.region id ops true).wpIn (Fence.wide.inRound l) n P Q a w :=
 wpIn_region_any hm (wpAny_round hd hQ _ _ _ _ h)
theorem lets_block {id : Nat} {Q' : Exit→Act→World→Prop} (h : ¬ LetsOut Q') : ¬ LetsOut (Exit.inBlock id Q'):=fun ⟨a,w,q⟩=>h ⟨a,w,q⟩
end
end Go.Proofs.YtopfedbhkfdjkaaGreatDoor


/- clip: the three rows that split lets grow, the closure of the section's edges, what the iterator's callbacks keep. -/
namespace Go.Proofs.YtopfedbhkfdjkaaGreatDoor
open Go Go.RowKit
/-! ### append, and where the new row lies -/
section
variable {P : Program} {ops : Array Oper} {rest : List Oper} {o : Oper} {a : Act} {K : Act→World→Prop} {Q : Exit→Act→World→Prop} {E : Prop}
theorem step_append_row {X : World} (base : Nat) (hgd : o.guard=none) (s x : Operand) (t e : TypeId) (z : Value) (size bytes : Nat)
  (ho : o.op=.call { callee:=.builtin .append,args:=#[s,x],argTypes:=#[t,t] })
  (ht : P.underlying t=some (.slice e)) (hinfo : (P.info? e).map (fun i=>(i.zero,i.size,i.bytes))=some (some z,size,bytes)) (hz : z.cells.size=size) (hsz : 0<size) (hb0 : 0<bytes)
  (v : Value) (n m : Nat) (xs ys : List Value) (hs : a.eval s=v) (p : Nat) (hx : a.eval x=.slice (some ⟨p,0,none⟩) m m) (hm : 0<m) (hl : ys.length=m * size) (h1 : ∀ y,y ∈ ys→y.oneCell'=true)
  (HO : X.ownsRow base e size v n xs) (hbox : X.heap[p]?=some (.cells ys.toArray e (0,0))) (hbase : base≤X.heap.size) (hbytes : (n+m) * bytes≤140737488355328)
  (h : ∀ v1 w1,w1.ownsRow base e size v1 (n+m) (xs++ys)→X.grownBy w1 v.ownBlock→(v1.ownBlock=v.ownBlock∨v1.ownBlock=some X.heap.size)→K (a.put o.dst v1) w1) :
  if Region.wanted o (yielded ops a.tmps)=true then Oper.wp P o a X K Q else E:=by
 obtain ⟨i0,hi,hzz⟩:=Option.map_eq_some_iff.1 hinfo
 simp only [Prod.mk.injEq] at hzz
 obtain ⟨hz0,hz1,hz2⟩:=hzz
 have hlen : n+m≤140737488355328:=Nat.le_trans (Nat.le_mul_of_pos_right _ hb0) hbytes
 refine step_append_lies X hgd s x t ho base e i0 z size bytes ht hi hz0 hz1 hz2 hz hsz v n xs hs HO ⟨p,0,none⟩ m m ys hx hl ?_ h1 hm (by unfold maxLen; omega) hbytes hbase X.heap.size rfl ?_
 ·have hh:=World.news_of_block (w:=X) (B:=p) (cs:=ys.toArray) (t:=e) (fr:=(0,0)) hbox
  simpa using hh
 ·intro g cap w1 hown hg hat _
  refine h _ w1 hown hg ?_
  rcases hat with hat | hat
  ·exact .inl hat.symm
  ·exact .inr (by rw [← hat]; rfl)
theorem append_row {X : World} (base : Nat) (hgd : o.guard=none) (s x : Operand) (t e : TypeId) (z : Value) (size bytes : Nat)
  (ho : o.op=.call { callee:=.builtin .append,args:=#[s,x],argTypes:=#[t,t] })
  (ht : P.underlying t=some (.slice e)) (hinfo : (P.info? e).map (fun i=>(i.zero,i.size,i.bytes))=some (some z,size,bytes)) (hz : z.cells.size=size) (hsz : 0<size) (hb0 : 0<bytes)
  (v : Value) (n m : Nat) (xs ys : List Value) (hs : a.eval s=v) (p : Nat) (hx : a.eval x=.slice (some ⟨p,0,none⟩) m m) (hm : 0<m) (hl : ys.length=m * size) (h1 : ∀ y,y ∈ ys→y.oneCell'=true)
  (HO : X.ownsRow base e size v n xs) (hbox : X.heap[p]?=some (.cells ys.toArray e (0,0))) (hbase : base≤X.heap.size) (hbytes : (n+m) * bytes≤140737488355328)
  (h : ∀ v1 w1,w1.ownsRow base e size v1 (n+m) (xs++ys)→X.grownBy w1 v.ownBlock→(v1.ownBlock=v.ownBlock∨v1.ownBlock=some X.heap.size)→wpList P ops Q rest (a.put o.dst v1) w1) : wpList P ops Q (o :: rest) a X:=by
 obtain ⟨i0,hi,hzz⟩:=Option.map_eq_some_iff.1 hinfo
 simp only [Prod.mk.injEq] at hzz
 obtain ⟨hz0,hz1,hz2⟩:=hzz
 have hlen : n+m≤140737488355328:=Nat.le_trans (Nat.le_mul_of_pos_right _ hb0) hbytes
 refine wpList_append_lies X hgd s x t ho base e i0 z size bytes ht hi hz0 hz1 hz2 hz hsz v n xs hs HO ⟨p,0,none⟩ m m ys hx hl ?_ h1 hm (by unfold maxLen; omega) hbytes hbase X.heap.size rfl ?_
 ·have hh:=World.news_of_block (w:=X) (B:=p) (cs:=ys.toArray) (t:=e) (fr:=(0,0)) hbox
  simpa using hh
 ·intro g cap w1 hown hg hat _
  refine h _ w1 hown hg ?_
  rcases hat with hat | hat
  ·exact .inl hat.symm
  ·exact .inr (by rw [← hat]; rfl)
end
/-! ### Worlds in which a box and a row have turned -/
theorem But.grown {B : Nat} {x : Nat→Prop} {a b c : World} {row : Option Nat} (h : But B x a b) (hB : B≤b.heap.size) (g : b.grownBy c row) (hr : ∀ k,row=some k→x k∨B≤k) : But B x a c :=
 h.trans ⟨g.os,g.tape,g.output,g.size,fun k hk hx=>g.block k (by omega) (fun e=>by
  rcases hr k e.symm with h | h
  ·exact hx h
  ·omega)⟩
abbrev Two (cb : Nat) (v : Value) (W W' : World) : Prop:=But W.heap.size (fun k=>k=cb∨v.ownBlock=some k) W W'
theorem own_same {W W' : World} {base sz n : Nat} {e : TypeId} {v : Value} {xs : List Value} (h : W.ownsRow base e sz v n xs) (hs : ∀ k,v.ownBlock=some k→W'.heap[k]?=W.heap[k]?) : W'.ownsRow base e sz v n xs:=by
 refine ⟨h.1, ?_⟩
 rcases h.2 with h2 | ⟨g,cap,cur,rfl,h2,h3,h4⟩
 ·exact .inl h2
 ·exact .inr ⟨g,cap,cur,rfl,h2,(hs g rfl).trans h3,h4⟩
theorem own_cells' {W : World} {base sz n : Nat} {e : TypeId} {v : Value} {xs : List Value} (h : W.ownsRow base e sz v n xs) {k : Nat} (hk : v.ownBlock=some k) : ∃ cur,W.heap[k]?=some (.cells cur e (0,0))∧base≤k∧k<W.heap.size:=by
 rcases h.2 with ⟨rfl,_⟩ | ⟨g,cap,cur,rfl,h2,h3,h4⟩
 ·simp [Value.ownBlock] at hk
 ·simp [Value.ownBlock] at hk
  subst hk
  exact ⟨cur,h3,h2,(Array.getElem?_eq_some_iff.1 h3).1⟩
theorem Bk.same {W W' : World} {b : Nat} {vs : List Value} (h : Bk W b vs) (hs : W.heap.size≤W'.heap.size) (e : W'.heap[b]?=W.heap[b]?) : Bk W' b vs :=
 ⟨Nat.lt_of_lt_of_le h.lt hs,fun i v hv=>by have:=h.cell i v hv; simpa [World.cell?,e] using this,fun i=>by have:=h.free i; simpa [World.frozen?,e] using this⟩
theorem Bk.cells {W : World} {b : Nat} {v : Value} {vs : List Value} (h : Bk W b (v :: vs)) {o : Obj} (ho : W.heap[b]?=some o) : o.isCells=true:=cells_of (h.cell 0 v rfl) ho
structure SPI (pb sb B : Nat) (d u : List TV) (e : List (SV × SV)) (v0 v1 v2 : Value) (W : World) : Prop where
 kp : Bk W pb [v0,v1]
 ks : Bk W sb [v2]
 r0 : W.ownsRow B 36 9 v0 d.length (tcs d)
 r1 : W.ownsRow B 36 9 v1 u.length (tcs u)
 r2 : W.ownsRow B 54 6 v2 e.length (sgs e)
 ap : ∀ k,v0.ownBlock=some k→v1.ownBlock≠some k
 pB : pb<B
 sB : sb<B
 ne : pb≠sb
 hB : B≤W.heap.size
def XS (pb sb : Nat) (W : World) (k : Nat) : Prop:=k=pb∨k=sb∨(∃ i v,i<2∧W.cell? ⟨pb,i,none⟩=some v∧v.ownBlock=some k)∨(∃ v,W.cell? ⟨sb,0,none⟩=some v∧v.ownBlock=some k)∨∃ o,W.heap[k]?=some o∧o.isCells=false
section
variable {pb sb B : Nat} {d u : List TV} {e : List (SV × SV)} {v0 v1 v2 : Value} {W : World}
theorem SPI.x0 (h : SPI pb sb B d u e v0 v1 v2 W) {k : Nat} (hk : v0.ownBlock=some k) : XS pb sb W k:=.inr (.inr (.inl ⟨0,v0,by omega,h.kp.cell 0 _ rfl,hk⟩))
theorem SPI.x1 (h : SPI pb sb B d u e v0 v1 v2 W) {k : Nat} (hk : v1.ownBlock=some k) : XS pb sb W k:=.inr (.inr (.inl ⟨1,v1,by omega,h.kp.cell 1 _ rfl,hk⟩))
theorem SPI.x2 (h : SPI pb sb B d u e v0 v1 v2 W) {k : Nat} (hk : v2.ownBlock=some k) : XS pb sb W k:=.inr (.inr (.inr (.inl ⟨v2,h.ks.cell 0 _ rfl,hk⟩)))
theorem SPI.cases (h : SPI pb sb B d u e v0 v1 v2 W) {k : Nat} (hx : XS pb sb W k) : k=pb∨k=sb∨v0.ownBlock=some k∨v1.ownBlock=some k∨v2.ownBlock=some k∨∃ o,W.heap[k]?=some o∧o.isCells=false:=by
 rcases hx with h1 | h1 | ⟨i,v,hi,hc,ho⟩ | ⟨v,hc,ho⟩ | h1
 ·exact .inl h1
 ·exact .inr (.inl h1)
 ·have h0:=h.kp.cell 0 _ rfl
  have h1:=h.kp.cell 1 _ rfl
  obtain rfl | rfl : i=0∨i=1:=by omega
  ·rw [h0] at hc
   cases hc
   exact .inr (.inr (.inl ho))
  ·rw [h1] at hc
   cases hc
   exact .inr (.inr (.inr (.inl ho)))
 ·rw [h.ks.cell 0 _ rfl] at hc
  cases hc
  exact .inr (.inr (.inr (.inr (.inl ho))))
 ·exact .inr (.inr (.inr (.inr (.inr h1))))
theorem SPI.row (h : SPI pb sb B d u e v0 v1 v2 W) {k : Nat} (hk : v0.ownBlock=some k∨v1.ownBlock=some k∨v2.ownBlock=some k) : B≤k∧k<W.heap.size∧∀ o,W.heap[k]?=some o→o.isCells=true:=by
 rcases hk with hk | hk | hk
 ·obtain ⟨cur,h1,h2,h3⟩:=own_cells' h.r0 hk
  exact ⟨h2,h3,fun o ho=>by rw [h1] at ho; cases ho; rfl⟩
 ·obtain ⟨cur,h1,h2,h3⟩:=own_cells' h.r1 hk
  exact ⟨h2,h3,fun o ho=>by rw [h1] at ho; cases ho; rfl⟩
 ·obtain ⟨cur,h1,h2,h3⟩:=own_cells' h.r2 hk
  exact ⟨h2,h3,fun o ho=>by rw [h1] at ho; cases ho; rfl⟩
theorem SPI.far0 (h : SPI pb sb B d u e v0 v1 v2 W) {k : Nat} (hk : v2.ownBlock=some k) : v0.ownBlock≠some k∧v1.ownBlock≠some k:=by
 obtain ⟨cur,h1, -⟩:=own_cells' h.r2 hk
 constructor
 ·intro h0
  obtain ⟨cur2,h2, -⟩:=own_cells' h.r0 h0
  rw [h1] at h2
  cases h2
 ·intro h0
  obtain ⟨cur2,h2, -⟩:=own_cells' h.r1 h0
  rw [h1] at h2
  cases h2
theorem SPI.grown (h : SPI pb sb B d u e v0 v1 v2 W) {W' : World} {row : Option Nat} (g : W.grownBy W' row) (hr : ∀ r,row=some r→B≤r∧∃ o : Obj,W.heap[r]?=some o∧o.isCells=false) : SPI pb sb B d u e v0 v1 v2 W':=by
 have far : ∀ k,k<B→W'.heap[k]?=W.heap[k]?:=fun k hk=>g.block k (by have:=h.hB; omega) (fun e=>by have:=(hr k e.symm).1; omega)
 have rows : ∀ k,v0.ownBlock=some k∨v1.ownBlock=some k∨v2.ownBlock=some k→W'.heap[k]?=W.heap[k]?:=fun k hk=>by
  obtain ⟨h1,h2,h3⟩:=h.row hk
  refine g.block k h2 (fun e=>?_)
  obtain ⟨_,o,ho,hn⟩:=hr k e.symm
  rw [h3 o ho] at hn
  cases hn
 exact ⟨h.kp.same g.size (far _ h.pB),h.ks.same g.size (far _ h.sB),own_same h.r0 fun k hk=>rows k (.inl hk),own_same h.r1 fun k hk=>rows k (.inr (.inl hk)),own_same h.r2 fun k hk=>rows k (.inr (.inr hk)),h.ap,h.pB,h.sB,h.ne,Nat.le_trans h.hB g.size⟩
theorem SPI.kx (h : SPI pb sb B d u e v0 v1 v2 W) {d' u' : List TV} {e' : List (SV × SV)} {v0' v1' v2' : Value} {W' : World} (h' : SPI pb sb B d' u' e' v0' v1' v2' W') {cb : Nat} {v : Value} (hcb : cb=pb∨cb=sb) (hv : v=v0∨v=v1∨v=v2) (g : Two cb v W W')
  (n0 : ∀ k,k<W.heap.size→v0'.ownBlock=some k→v0.ownBlock=some k) (n1 : ∀ k,k<W.heap.size→v1'.ownBlock=some k→v1.ownBlock=some k) (n2 : ∀ k,k<W.heap.size→v2'.ownBlock=some k→v2.ownBlock=some k) :
  Kx (XS pb sb) W W'∧KeepsFrom B W W':=by
 have hx : ∀ k,(k=cb∨v.ownBlock=some k)→XS pb sb W k:=by
  rintro k (rfl | hk)
  ·rcases hcb with rfl | rfl
   ·exact .inl rfl
   ·exact .inr (.inl rfl)
  ·rcases hv with rfl | rfl | rfl
   ·exact h.x0 hk
   ·exact h.x1 hk
   ·exact h.x2 hk
 refine ⟨⟨g.size,fun k hk hn=>g.block k hk (fun e=>hn (hx k e)),fun k hk hX=>?_⟩,⟨g.size,fun k o hB ho hn=>?_⟩⟩
 ·rcases h'.cases hX with h1 | h1 | h1 | h1 | h1 | ⟨o,ho,hn⟩
  ·exact .inl h1
  ·exact .inr (.inl h1)
  ·exact h.x0 (n0 k hk h1)
  ·exact h.x1 (n1 k hk h1)
  ·exact h.x2 (n2 k hk h1)
  ·by_cases hc : k=cb∨v.ownBlock=some k
   ·exact hx k hc
   ·exact .inr (.inr (.inr (.inr ⟨o,(g.block k hk hc).symm.trans ho,hn⟩)))
 ·refine (g.block k (Array.getElem?_eq_some_iff.1 ho).1 ?_).trans ho
  rintro (rfl | hk)
  ·have:=h.pB
   have:=h.sB
   rcases hcb with rfl | rfl<;>omega
  ·rw [(h.row (by rcases hv with rfl | rfl | rfl<;>simp [hk])).2.2 o ho] at hn
   cases hn
theorem SPI.edge (h : SPI pb sb B d u e v0 v1 v2 W) {W' : World} {v : Value} {e' : List (SV × SV)} (g : Two sb v2 W W') (k : Bk W' sb [v]) (r : W'.ownsRow B 54 6 v e'.length (sgs e')) (hn : v.ownBlock=v2.ownBlock∨∃ j,v.ownBlock=some j∧W.heap.size≤j) :
  SPI pb sb B d u e' v0 v1 v W'∧Kx (XS pb sb) W W'∧KeepsFrom B W W':=by
 have hpB:=h.pB
 have hsB:=h.sB
 have same : ∀ q,v0.ownBlock=some q∨v1.ownBlock=some q→W'.heap[q]?=W.heap[q]?:=fun q hq=>by
  have hr:=h.row (k:=q) (by rcases hq with hq | hq<;>simp [hq])
  refine g.block q hr.2.1 ?_
  rintro (rfl | h2)
  ·omega
  ·rcases hq with hq | hq
   ·exact (h.far0 h2).1 hq
   ·exact (h.far0 h2).2 hq
 have hp : W'.heap[pb]?=W.heap[pb]?:=g.block pb h.kp.lt (by
  rintro (h1 | h1)
  ·exact h.ne h1
  ·have:=(h.row (k:=pb) (by simp [h1])).1
   omega)
 have h' : SPI pb sb B d u e' v0 v1 v W':=⟨h.kp.same g.size hp,k,own_same h.r0 fun q hq=>same q (.inl hq),own_same h.r1 fun q hq=>same q (.inr hq),r,h.ap,hpB,hsB,h.ne,Nat.le_trans h.hB g.size⟩
 refine ⟨h',h.kx h' (.inr rfl) (.inr (.inr rfl)) g (fun _ _ h=>h) (fun _ _ h=>h) (fun q hq hv=>?_)⟩
 rcases hn with hn | ⟨j,hj,hl⟩
 ·rw [← hn]; exact hv
 ·rw [hj] at hv
  cases hv
  omega
theorem SPI.down (h : SPI pb sb B d u e v0 v1 v2 W) {W' : World} {v : Value} {d' : List TV} (g : Two pb v0 W W') (k : Bk W' pb [v,v1]) (r : W'.ownsRow B 36 9 v d'.length (tcs d')) (hn : v.ownBlock=v0.ownBlock∨∃ j,v.ownBlock=some j∧W.heap.size≤j) :
  SPI pb sb B d' u e v v1 v2 W'∧Kx (XS pb sb) W W'∧KeepsFrom B W W':=by
 have hpB:=h.pB
 have hsB:=h.sB
 have hnew : ∀ q,q<W.heap.size→v.ownBlock=some q→v0.ownBlock=some q:=fun q hq hv=>by
  rcases hn with hn | ⟨j,hj,hl⟩
  ·rw [← hn]; exact hv
  ·rw [hj] at hv
   cases hv
   omega
 have same : ∀ q,v1.ownBlock=some q∨v2.ownBlock=some q→W'.heap[q]?=W.heap[q]?:=fun q hq=>by
  have hr:=h.row (k:=q) (by rcases hq with hq | hq<;>simp [hq])
  refine g.block q hr.2.1 ?_
  rintro (rfl | h2)
  ·omega
  ·rcases hq with hq | hq
   ·exact h.ap q h2 hq
   ·exact (h.far0 hq).1 h2
 have hs : W'.heap[sb]?=W.heap[sb]?:=g.block sb h.ks.lt (by
  rintro (h1 | h1)
  ·exact h.ne h1.symm
  ·have:=(h.row (k:=sb) (by simp [h1])).1
   omega)
 have h' : SPI pb sb B d' u e v v1 v2 W':=⟨k,h.ks.same g.size hs,r,own_same h.r1 fun q hq=>same q (.inl hq),own_same h.r2 fun q hq=>same q (.inr hq),fun q hq h1=>by
  exact h.ap q (hnew q (h.row (.inr (.inl h1))).2.1 hq) h1,hpB,hsB,h.ne,Nat.le_trans h.hB g.size⟩
 exact ⟨h',h.kx h' (.inl rfl) (.inl rfl) g hnew (fun _ _ h=>h) (fun _ _ h=>h)⟩
theorem SPI.up (h : SPI pb sb B d u e v0 v1 v2 W) {W' : World} {v : Value} {u' : List TV} (g : Two pb v1 W W') (k : Bk W' pb [v0,v]) (r : W'.ownsRow B 36 9 v u'.length (tcs u')) (hn : v.ownBlock=v1.ownBlock∨∃ j,v.ownBlock=some j∧W.heap.size≤j) :
  SPI pb sb B d u' e v0 v v2 W'∧Kx (XS pb sb) W W'∧KeepsFrom B W W':=by
 have hpB:=h.pB
 have hsB:=h.sB
 have hnew : ∀ q,q<W.heap.size→v.ownBlock=some q→v1.ownBlock=some q:=fun q hq hv=>by
  rcases hn with hn | ⟨j,hj,hl⟩
  ·rw [← hn]; exact hv
  ·rw [hj] at hv
   cases hv
   omega
 have same : ∀ q,v0.ownBlock=some q∨v2.ownBlock=some q→W'.heap[q]?=W.heap[q]?:=fun q hq=>by
  have hr:=h.row (k:=q) (by rcases hq with hq | hq<;>simp [hq])
  refine g.block q hr.2.1 ?_
  rintro (rfl | h2)
  ·omega
  ·rcases hq with hq | hq
   ·exact h.ap q hq h2
   ·exact (h.far0 hq).2 h2
 have hs : W'.heap[sb]?=W.heap[sb]?:=g.block sb h.ks.lt (by
  rintro (h1 | h1)
  ·exact h.ne h1.symm
  ·have:=(h.row (k:=sb) (by simp [h1])).1
   omega)
 have h' : SPI pb sb B d u' e v0 v v2 W':=⟨k,h.ks.same g.size hs,own_same h.r0 fun q hq=>same q (.inl hq),r,own_same h.r2 fun q hq=>same q (.inr hq),fun q h0 hq=>by
  exact h.ap q h0 (hnew q (h.row (.inl h0)).2.1 hq),hpB,hsB,h.ne,Nat.le_trans h.hB g.size⟩
 exact ⟨h',h.kx h' (.inl rfl) (.inr (.inl rfl)) g (fun _ _ h=>h) hnew (fun _ _ h=>h)⟩
theorem SPI.below (h : SPI pb sb B d u e v0 v1 v2 W) {W' : World} (g : Below W.heap.size W W') : SPI pb sb B d u e v0 v1 v2 W' :=
 h.grown ⟨g.os,g.tape,g.output,g.size,fun k hk _=>g.block k hk⟩ (fun r hr=>by cases hr) (row:=none)
theorem bo_grown (h : SPI pb sb B d u e v0 v1 v2 W) {W' : World} {row : Option Nat} (g : W.grownBy W' row) (hr : ∀ r,row=some r→B≤r∧∃ o : Obj,W.heap[r]?=some o∧o.isCells=false) {b : Nat} {v : Value} {vs : List Value} (hb : Bo (XS pb sb) W b (v :: vs)) : Bo (XS pb sb) W' b (v :: vs):=by
 have hs : W'.heap[b]?=W.heap[b]?:=g.block b hb.bk.lt (fun e=>by
  obtain ⟨_,o,ho,hn⟩:=hr b e.symm
  rw [hb.bk.cells ho] at hn
  cases hn)
 have k':=hb.bk.same g.size hs
 refine ⟨k',fun hX=>hb.out ?_⟩
 rcases (h.grown g hr).cases hX with h1 | h1 | h1 | h1 | h1 | ⟨o,ho,hn⟩
 ·exact .inl h1
 ·exact .inr (.inl h1)
 ·exact h.x0 h1
 ·exact h.x1 h1
 ·exact h.x2 h1
 ·rw [k'.cells ho] at hn
  cases hn
end
theorem bk_two {W X w1 : World} {b : Nat} {vs : List Value} {row : Option Nat} (h : Bk W b vs) (g : Below W.heap.size W X) (hg : X.grownBy w1 row) (hr : ∀ k,row=some k→b≠k) : Bk w1 b vs :=
 (h.below g).same hg.size (hg.block b (h.below g).lt (fun e=>hr b e.symm rfl))
theorem two_edge {cb : Nat} {v : Value} {W W1 : World} (g : Below W.heap.size W W1) {w1 : World} (hg : W1.grownBy w1 v.ownBlock) (i : Nat) (x : Value) : Two cb v W (w1.setCell ⟨cb,i,none⟩ x) :=
 ((But.of g).grown g.size hg (fun k hk=>.inl (.inr hk))).put (.inl (.inl rfl)) _
set_option maxHeartbeats 2000000 in
/-- The closure that takes an edge of the section. -/
theorem edge_row (e : SV × SV) (bs base : Nat) (v : Value) (l : List (SV × SV)) (W : World) (hk : Bk W bs [v]) (hb : bs<base) (hz : base≤W.heap.size) (ho : W.ownsRow base 54 6 v l.length (sgs l)) (hm : l.length≤1000000) :
  Calls Tryz.prog 84 #[.agg #[.string e.1.x,.string e.1.y,.string e.1.z,.string e.2.x,.string e.2.y,.string e.2.z],.pointer (some ⟨bs,0,none⟩)] W fun en W'=>(∃ u,en=.returned u) ∧
   ∃ v',Bk W' bs [v']∧W'.ownsRow base 54 6 v' (l.length+1) (sgs (l++[e]))∧Two bs v W W'∧(v'.ownBlock=v.ownBlock∨∃ j,v'.ownBlock=some j∧W.heap.size≤j):=by
 have HS : Hid (sgs [e]=[.string e.1.x,.string e.1.y,.string e.1.z,.string e.2.x,.string e.2.y,.string e.2.z]):=Lib.hid rfl
 obtain ⟨A,cap,rfl⟩:=own_sl ho
 have HO:=Lib.hid ho
 have HK:=Lib.hid hk
 have c0:=hk.cell 0 _ rfl
 have hl:=hk.lt
 clear hk ho
 generalize e.1.x=x1 at *
 generalize e.1.y=x2 at *
 generalize e.1.z=x3 at *
 generalize e.2.x=x4 at *
 generalize e.2.y=x5 at *
 generalize e.2.z=x6 at *
 go_enter Tryz.func84,Tryz.ntmps84
 go_wp2_with (at_builtin; refine append_row base rfl (.tmp 3) (.tmp 5) 37 54 _ 6 96 rfl Tryz.underlying37 info_seg rfl (by omega) (by omega) (.slice A l.length cap) l.length 1 (sgs l) [.string x1,.string x2,.string x3,.string x4,.string x5,.string x6] rfl (W.heap.size+1) rfl (by omega) rfl (by simp [Value.oneCell']) ((HO.out.alloc _).alloc _) (box_at _ _ (by simp)) (by (try simp)<;>omega) (by omega) ?_; intro v1 w1 hown1 hg1 hat1; replace hg1:=Lib.hid hg1; replace hat1:=Lib.hid hat1; obtain ⟨A1,cap1,rfl⟩:=own_sl hown1; have K1:=bk_two HK.out (ba (ba (br _))) hg1.out (fun k e=>by have:=own_base_le HO.out k e; omega); have d0:=K1.cell 0 _ rfl; have f0:=K1.free 0; have HO1:=Lib.hid hown1; have HK1:=Lib.hid K1; clear hown1 K1)
 have HR : Hid (Bk (w1.setCell ⟨bs,0,none⟩ (.slice A1 (l.length+1) cap1)) bs [.slice A1 (l.length+1) cap1]∧(w1.setCell ⟨bs,0,none⟩ (.slice A1 (l.length+1) cap1)).ownsRow base 54 6 (.slice A1 (l.length+1) cap1) (l.length+1) (sgs (l++[e]))∧Two bs (.slice A l.length cap) W (w1.setCell ⟨bs,0,none⟩ (.slice A1 (l.length+1) cap1))):=Lib.hid ⟨HK1.out.set 0 (by simp) _,by
  rw [sgs_append,HS.out]
  exact own_put HO1.out hb _,two_edge (ba (ba (br _))) hg1.out 0 _⟩
 have HAT : Hid ((Value.slice A1 (l.length+1) cap1).ownBlock=(Value.slice A l.length cap).ownBlock∨∃ j,(Value.slice A1 (l.length+1) cap1).ownBlock=some j∧W.heap.size≤j):=Lib.hid (by
  rcases hat1.out with h | h
  ·exact .inl h
  ·exact .inr ⟨_,h,by simp; omega⟩)
 go_end0
 exact ⟨⟨_,rfl⟩,_,HR.out.1,HR.out.2.1,HR.out.2.2,HAT.out⟩
end Go.Proofs.YtopfedbhkfdjkaaGreatDoor
