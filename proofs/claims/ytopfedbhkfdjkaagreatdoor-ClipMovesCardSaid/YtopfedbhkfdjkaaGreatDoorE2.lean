
/- Words for the walks: slices that are read, slices of words, worlds that only grow. Plain lemmas on the model's worlds: no function of the program. -/
import Derived.Test.YtopfedbhkfdjkaaGreatDoorProg
import Derived.WalkKit
import Derived.Deep.QuietTactic
import Derived.BigQuiet
import Derived.Deep.RegionHeld3
import Derived.OwnWalk
import Derived.Lib.Hide
import Derived.Laws.OwnMore
import Derived.Test.YtopfedbhkfdjkaaGreatDoorE1
import Derived.Maps.AppendAt
import Derived.Deep.AppendLies
import Derived.Laws.MakeOwn
import Derived.IntWalk
import Derived.Deep.RegionWith
import Derived.Deep.DeepCutAuto
import Derived.Deep.CutBlock
import Derived.Deep.LoopGhost
set_option linter.unusedVariables false
set_option linter.unusedSimpArgs false
namespace Go.Proofs.YtopfedbhkfdjkaaGreatDoor
open Go Go.RowKit
theorem bcell {W w1 : World} (hb : Below W.heap.size W w1) : (∀ b o,b<W.heap.size→w1.cell? ⟨b,o,none⟩=W.cell? ⟨b,o,none⟩)∧(∀ b o,b<W.heap.size→w1.frozen? ⟨b,o,none⟩=W.frozen? ⟨b,o,none⟩) :=
 ⟨fun b o h=>hb.cell (p:=⟨b,o,none⟩) h,fun b o h=>hb.frozen (p:=⟨b,o,none⟩) h⟩
theorem cell_below {w w1 : World} (h : Below w.heap.size w w1) {a : Addr} {v : Value} (hc : w.cell? a=some v) : w1.cell? a=some v:=(h.cell (World.block_lt_of_cell? w a hc)).trans hc
theorem below_then {B : Nat} {w w1 w2 : World} (h : Below B w w1) (hB : B≤w1.heap.size) (k : Below w1.heap.size w1 w2) : Below B w w2:=h.trans (k.mono hB)
theorem below_drewN {B : Nat} {w W : World} (h : Below B w W) (n : Nat) : Below B w (W.drewN n):=⟨h.os,h.tape,h.output,h.size,h.block⟩
def Ret (P : Value→World→Prop) (e : Ending) (w' : World) : Prop:=∃ v,e=.returned v∧P v w'
def Ret2 (P : Value→Value→World→Prop) (e : Ending) (w' : World) : Prop:=∃ v u,e=.returned (.tuple #[v,u])∧P v u w'
theorem quiet_add_same {P : Program} {f : FuncId} {args : Array Value} {w : World} {a n : Nat} {v : Value}
  (h : Calls P f args (w.drewN (a+n)) fun e w'=>e=.returned v∧w'=w.drewN (a+n)) :
  Calls P f args (w.drewN (a+n)) fun e w''=>e=.returned v∧∃ m,w''=w.drewN (a+m) :=
 h.mono fun _ _ ⟨he,hm⟩=>⟨he,n,hm⟩
def Rd (w : World) (sz : Nat) (v : Value) (n : Nat) (xs : List Value) : Prop :=
 xs.length=n * sz∧∃ A cap,v=.slice A n cap∧n≤cap∧cap≤maxLen∧(0<n→∃ b off,A=some ⟨b,off,none⟩∧∀ j u,xs[j]?=some u→w.cell? ⟨b,off+j,none⟩=some u)
theorem Rd.below {w w1 : World} {sz n : Nat} {v : Value} {xs : List Value} (h : Rd w sz v n xs) (hb : Below w.heap.size w w1) : Rd w1 sz v n xs:=by
 obtain ⟨hl,A,cap,hv,hn,hc,h⟩:=h
 refine ⟨hl,A,cap,hv,hn,hc,fun h0=>?_⟩
 obtain ⟨b,off,hA,hcell⟩:=h h0
 exact ⟨b,off,hA,fun j u hu=>cell_below hb (hcell j u hu)⟩
theorem Rd.own {w : World} {base sz n : Nat} {e : TypeId} {v : Value} {xs : List Value} (h : w.ownsRow base e sz v n xs) : Rd w sz v n xs:=by
 refine ⟨h.1, ?_⟩
 rcases h.2 with ⟨rfl,rfl⟩ | ⟨g,cap,cur,rfl,hb,hg,hn,hc,hs,ht⟩
 ·exact ⟨none,0,rfl,Nat.le_refl _,Nat.zero_le _,fun h0=>absurd h0 (by omega)⟩
 ·refine ⟨some ⟨g,0,none⟩,cap,rfl,hn,hc,fun h0=>⟨g,0,rfl,fun j u hu=>?_⟩⟩
  have:=h.cells (g:=g) rfl j u hu
  rw [Nat.zero_add]
  have e : (⟨g,0,none⟩ : Addr).add j=⟨g,j,none⟩:=by unfold Addr.add; split<;>simp_all
  rwa [e] at this
def u32s (l : List Nat) : List Value:=l.map fun (x : Nat)=>.int .u32 (x : Int)
theorem u32s_length (l : List Nat) : (u32s l).length=l.length:=by simp [u32s]
theorem u32s_append (a b : List Nat) : u32s (a++b)=u32s a++u32s b:=by simp [u32s]
theorem u32s_get {l : List Nat} {j : Nat} (h : j<l.length) : (u32s l)[j]?=some (.int .u32 (wd l j : Nat)):=by
 simp [u32s,wd,List.getD_eq_getElem?_getD,List.getElem?_eq_getElem h]
def U32 (w : World) (v : Value) (l : List Nat) : Prop:=Rd w 1 v l.length (u32s l)
def Num (w : World) (v : Value) (n : Nat) : Prop:=U32 w v (wds n)
theorem U32.below {w w1 : World} {v : Value} {l : List Nat} (h : U32 w v l) (hb : Below w.heap.size w w1) : U32 w1 v l:=Rd.below h hb
theorem Num.below {w w1 : World} {v : Value} {n : Nat} (h : Num w v n) (hb : Below w.heap.size w w1) : Num w1 v n:=Rd.below h hb
theorem U32.own {w : World} {base : Nat} {e : TypeId} {v : Value} {l : List Nat} (h : w.ownsRow base e 1 v l.length (u32s l)) : U32 w v l:=Rd.own h
theorem U32.open {w : World} {v : Value} {l : List Nat} (h : U32 w v l) : ∃ A cap,v=.slice A l.length cap∧l.length≤cap∧cap≤9223372036854775807 ∧
  (0<l.length→∃ b off,A=some ⟨b,off,none⟩∧∀ j,j<l.length→w.cell? ⟨b,off+j,none⟩=some (.int .u32 (wd l j : Nat))):=by
 obtain ⟨_,A,cap,hv,hn,hc,h⟩:=h
 refine ⟨A,cap,hv,hn,by unfold maxLen at hc; exact hc,fun h0=>?_⟩
 obtain ⟨b,off,hA,hcell⟩:=h h0
 exact ⟨b,off,hA,fun j hj=>hcell j _ (u32s_get hj)⟩
theorem U32.mk {w : World} {A : Option Addr} {cap : Nat} {l : List Nat} (hn : l.length≤cap) (hc : cap≤9223372036854775807)
  (h : 0<l.length→∃ b off,A=some ⟨b,off,none⟩∧∀ j,j<l.length→w.cell? ⟨b,off+j,none⟩=some (.int .u32 (wd l j : Nat))) : U32 w (.slice A l.length cap) l:=by
 refine ⟨by rw [u32s_length,Nat.mul_one],A,cap,rfl,hn,by unfold maxLen; exact hc,fun h0=>?_⟩
 obtain ⟨b,off,hA,hcell⟩:=h h0
 refine ⟨b,off,hA,fun j u hu=>?_⟩
 have hj : j<l.length:=by
  have:=(List.getElem?_eq_some_iff.1 hu).1
  rwa [u32s_length] at this
 rw [u32s_get hj] at hu
 rw [hcell j hj,hu]
theorem U32.take {w : World} {A : Option Addr} {cap : Nat} {l : List Nat} (h : U32 w (.slice A l.length cap) l) (k : Nat) (hk : k≤l.length) : U32 w (.slice A k cap) (l.take k):=by
 obtain ⟨A',cap',hv,hn,hc,h⟩:=h.open
 cases hv
 have e : (l.take k).length=k:=by rw [List.length_take,Nat.min_eq_left hk]
 have:=U32.mk (w:=w) (A:=A) (cap:=cap) (l:=l.take k) (by omega) hc (fun h0=>by
  obtain ⟨b,off,hA,hcell⟩:=h (by omega)
  refine ⟨b,off,hA,fun j hj=>?_⟩
  rw [hcell j (by omega),wd,wd,List.getD_eq_getElem?_getD,List.getD_eq_getElem?_getD,List.getElem?_take_of_lt (by omega)])
 rwa [e] at this
theorem take_wds {l : List Nat} (ho : Okw l) : l.take (wds (val l)).length=wds (val l)∧(wds (val l)).length≤l.length:=by
 have hlen : (wds (val l)).length≤l.length:=wds_lt_pow (val_lt ho)
 refine ⟨?_,hlen⟩
 have key : ∀ k,k≤l.length→(∀ j,k≤j→j<l.length→l.getD j 0=0)→(k=0∨l.getD (k - 1) 0≠0)→l.take (wds (val l)).length=wds (val l):=by
  intro k hk hz hl
  have e:=take_eq_wds ho hk hz hl
  rw [← e,List.length_take,Nat.min_eq_left hk]
 -- the least such k
 have : ∃ k,k≤l.length∧(∀ j,k≤j→j<l.length→l.getD j 0=0)∧(k=0∨l.getD (k - 1) 0≠0):=by
  have aux : ∀ n,n≤l.length→(∀ j,n≤j→j<l.length→l.getD j 0=0)→∃ k,k≤l.length∧(∀ j,k≤j→j<l.length→l.getD j 0=0)∧(k=0∨l.getD (k - 1) 0≠0):=by
   intro n
   induction n with
   | zero=>intro h1 h2; exact ⟨0,h1,h2,.inl rfl⟩
   | succ n ih =>
    intro h1 h2
    by_cases h : l.getD n 0=0
    ·refine ih (by omega) (fun j hj1 hj2=>?_)
     by_cases e : j=n
     ·rw [e]; exact h
     ·exact h2 j (by omega) hj2
    ·exact ⟨n+1,h1,h2,.inr h⟩
  exact aux l.length (Nat.le_refl _) (fun j h1 h2=>by omega)
 obtain ⟨k,h1,h2,h3⟩:=this
 exact key k h1 h2 h3
end Go.Proofs.YtopfedbhkfdjkaaGreatDoor


/- natural: trim, of, small and compare: what each returns, for every number in its normal form. -/
namespace Go.Proofs.YtopfedbhkfdjkaaGreatDoor
open Go Go.RowKit
theorem trim_len {l : List Nat} {k : Nat} (ho : Okw l) (hk : k≤l.length) (hz : ∀ j,k≤j→j<l.length→wd l j=0) (hl : k=0∨wd l (k - 1)≠0) : k=(wds (val l)).length:=by
 rw [← take_eq_wds ho hk hz hl,List.length_take,Nat.min_eq_left hk]
set_option maxHeartbeats 400000 in
theorem trim_walk (A : Option Addr) (l : List Nat) (cap : Nat) (w : World) (h : U32 w (.slice A l.length cap) l) (ho : Okw l) :
  Calls Tryz.prog 216 #[.slice A l.length cap] w fun e w'=>e=.returned (.slice A (wds (val l)).length cap)∧w'=w:=by
 obtain ⟨A',cap',hv,hn,hc,hcell⟩:=h.open
 cases hv
 go_enter Tryz.func216,Tryz.ntmps216
 go_wp2
 go_loop [0] (fun s=>∃ k : Nat,k≤l.length∧(∀ j,k≤j→j<l.length→wd l j=0)∧s=.slice A k cap) (fun s=>match s with | .slice _ n _=>n | _=>0)
 case atStart=>exact ⟨l.length,Nat.le_refl _,fun j h1 h2=>by omega,rfl⟩
 case round =>
  obtain ⟨k,hk,hz,rfl⟩:=hrel
  have hz':=Lib.hid hz
  clear hz
  by_cases h0 : k=0
  ·subst h0
   go_wp2
   go_ret
   have:=trim_len ho hk hz'.out (.inl rfl)
   exact ⟨by rw [← this]; rfl,rfl⟩
  ·obtain ⟨b,off,rfl,hcl⟩:=hcell (by omega)
   have hck:=hcl (k - 1) (by omega)
   by_cases hw : wd l (k - 1)=0
   ·have hb : ((wd l (k - 1) : Int) == 0)=true:=by rw [hw]; rfl
    go_wp2
    go_round
    case rel =>
     refine ⟨k - 1,by omega,fun j h1 h2=>?_,rfl⟩
     by_cases e : j=k - 1
     ·rw [e]; exact hw
     ·exact hz'.out j (by omega) h2
    case measure=>simp; omega
   ·have hb : ((wd l (k - 1) : Int) == 0)=false:=by simp; omega
    go_wp2
    go_ret
    have:=trim_len ho hk hz'.out (.inr hw)
    exact ⟨by rw [← this]; rfl,rfl⟩
def Own (w : World) (base : Nat) (v : Value) (l : List Nat) : Prop:=w.ownsRow base 173 1 v l.length (u32s l)
def NumO (w : World) (base : Nat) (v : Value) (n : Nat) : Prop:=Own w base v (wds n)
theorem Own.u32 {w : World} {base : Nat} {v : Value} {l : List Nat} (h : Own w base v l) : U32 w v l:=U32.own h
theorem NumO.num {w : World} {base : Nat} {v : Value} {n : Nat} (h : NumO w base v n) : Num w v n:=U32.own h
theorem Own.below {w w1 : World} {base : Nat} {v : Value} {l : List Nat} (h : Own w base v l) (hb : Below w.heap.size w w1) : Own w1 base v l :=
 World.ownsRow.kept (row:=none) h ⟨hb.os,hb.tape,hb.output,hb.size,fun k hk _=>hb.block k hk⟩ (by cases v.ownBlock<;>simp)
theorem NumO.below {w w1 : World} {base : Nat} {v : Value} {n : Nat} (h : NumO w base v n) (hb : Below w.heap.size w w1) : NumO w1 base v n:=Own.below h hb
theorem Own.base {w : World} {base base' : Nat} {v : Value} {l : List Nat} (h : Own w base v l) (hb : base'≤base) : Own w base' v l:=by
 refine ⟨h.1, ?_⟩
 rcases h.2 with h1 | ⟨g,cap,cur,h1,h2,h3⟩
 ·exact .inl h1
 ·exact .inr ⟨g,cap,cur,h1,Nat.le_trans hb h2,h3⟩
theorem Own.take {w : World} {base : Nat} {A : Option Addr} {cap : Nat} {l : List Nat} (h : Own w base (.slice A l.length cap) l) (k : Nat) (hk : k≤l.length) : Own w base (.slice A k cap) (l.take k):=by
 have e : (l.take k).length=k:=by rw [List.length_take,Nat.min_eq_left hk]
 refine ⟨by rw [u32s_length,Nat.mul_one], ?_⟩
 rw [e]
 rcases h.2 with ⟨h1,h0⟩ | ⟨g,cap',cur,h1,h2,h3,h4,h5,h6,h7⟩
 ·simp only [Value.slice.injEq] at h1
  obtain ⟨rfl,h2,rfl⟩:=h1
  exact .inl ⟨by rw [show k=0 by omega],by omega⟩
 ·simp only [Value.slice.injEq] at h1
  obtain ⟨rfl,_,rfl⟩:=h1
  refine .inr ⟨g,cap,cur,rfl,h2,h3,by omega,h5,h6, ?_⟩
  rw [Nat.mul_one] at h7 ⊢
  rw [show u32s (l.take k)=(u32s l).take k by simp [u32s],← h7,List.take_take,Nat.min_eq_left hk]
theorem NumO.base {w : World} {base base' : Nat} {v : Value} {n : Nat} (h : NumO w base v n) (hb : base'≤base) : NumO w base' v n:=Own.base h hb
theorem Own.trim {w : World} {base : Nat} {A : Option Addr} {cap : Nat} {l : List Nat} (h : Own w base (.slice A l.length cap) l) (ho : Okw l) : NumO w base (.slice A (wds (val l)).length cap) (val l):=by
 obtain ⟨e,hl⟩:=take_wds ho
 have:=h.take _ hl
 rw [e] at this
 exact this
theorem Own.form {w : World} {base : Nat} {v : Value} {l : List Nat} (h : Own w base v l) : ∃ A cap,v=.slice A l.length cap∧l.length≤cap∧cap≤9223372036854775807:=by
 obtain ⟨A,cap,hv,h1,h2,_⟩:=h.u32.open
 exact ⟨A,cap,hv,h1,h2⟩
set_option maxHeartbeats 400000 in
theorem of_walk (x : Nat) (hx : x<wB * wB) (w : World) :
  Calls Tryz.prog 225 #[.int .u64 x] w (Ret fun v w'=>NumO w' w.heap.size v x∧Below w.heap.size w w'):=by
 have hx' : (x : Int)<1000000000000000000:=by rw [wB_eq] at hx; omega
 have hx0 : (0 : Int)≤x:=by omega
 go_enter Tryz.func225,Tryz.ntmps225
 go_wp2_with fail
 have hv : val [x % wB,x / wB]=x:=by simp only [val,Nat.mul_zero,Nat.add_zero]; exact Nat.mod_add_div x wB
 have ho : Okw [x % wB,x / wB]:=Okw.cons (Nat.mod_lt _ wB_pos) (Okw.cons (by rw [Nat.div_lt_iff_lt_mul wB_pos]; exact hx) Okw.nil)
 have hcs : (#[Value.int IntKind.u32 ((x : Int) % 1000000000),Value.int IntKind.u32 ((x : Int) / 1000000000)] : Array Value)=(u32s [x % wB,x / wB]).toArray:=by
  simp [u32s,wB_eq]
 have hown : Own (w.alloc (.cells #[Value.int IntKind.u32 ((x : Int) % 1000000000),Value.int IntKind.u32 ((x : Int) / 1000000000)] 173)) w.heap.size (.slice (some ⟨w.heap.size,0,none⟩) 2 2) [x % wB,x / wB]:=by
  rw [hcs]
  exact World.ownsRow_lit (base:=w.heap.size) (size:=1) w (u32s [x % wB,x / wB]).toArray 2 (Nat.le_refl _) (by decide) rfl
 refine (trim_walk _ [x % wB,x / wB] 2 _ hown.u32 ho).mono ?_
 rintro e w1 ⟨rfl,rfl⟩
 have H:=hown.trim ho
 rw [hv] at H ⊢
 go_wp2
 go_ret
 exact ⟨_,rfl,H,(Below.refl _ _).alloc (Nat.le_refl _) _⟩
theorem wds_len1 {n : Nat} (h : (wds n).length=1) : wd (wds n) 0=n∧n<wB∧n≠0:=by
 have hv:=val_wds n
 have ho:=okw_wds n
 match hl : wds n,h with
 | [x],_ =>
  rw [hl] at hv ho
  simp only [val,Nat.mul_zero,Nat.add_zero] at hv
  subst hv
  refine ⟨rfl,ho.head,fun e=>?_⟩
  rw [e,wds_zero] at hl
  cases hl
theorem wds_len2 {n : Nat} (h : (wds n).length=2) : wd (wds n) 0+wB * wd (wds n) 1=n∧wd (wds n) 0<wB∧wd (wds n) 1<wB∧n<wB * wB:=by
 have hv:=val_wds n
 have ho:=okw_wds n
 have hlt:=lt_wds_pow n
 rw [h,Nat.pow_two] at hlt
 match hl : wds n,h with
 | [x,y],_ =>
  rw [hl] at hv ho
  simp only [val,Nat.mul_zero,Nat.add_zero] at hv
  exact ⟨hv,ho.head,ho.tail.head,hlt⟩
theorem wds_len_lt {n : Nat} (h : n<wB * wB) : (wds n).length≤2:=wds_lt_pow (by rw [Nat.pow_two]; exact h)
theorem wds_len_ge {n : Nat} (h : wB * wB≤n) : 3≤(wds n).length:=by
 rcases Nat.lt_or_ge (wds n).length 3 with h1 | h1
 ·have:=lt_wds_pow n
  have h2 : wB ^ (wds n).length≤wB ^ 2:=Nat.pow_le_pow_right wB_pos (by omega)
  rw [Nat.pow_two] at h2
  omega
 ·exact h1
def smallOf (n : Nat) : Nat:=if n<wB * wB then n else 0
set_option maxHeartbeats 400000 in
theorem small_walk (v : Value) (n : Nat) (w : World) (h : Num w v n) :
  Calls Tryz.prog 224 #[v] w fun e w'=>e=.returned (.tuple #[.int .u64 (smallOf n : Nat),.bool (decide (n<wB * wB))])∧Below w.heap.size w w':=by
 obtain ⟨A,cap,rfl,hn,hc,hcell⟩:=h.open
 by_cases hs : n<wB * wB
 ·have hle:=wds_len_lt hs
  rw [smallOf,if_pos hs,decide_eq_true hs]
  have Hs:=Lib.hid hs
  clear hs
  by_cases h0 : (wds n).length=0
  ·have e0 : n=0:=by rw [← wds_eq_nil]; exact List.length_eq_zero_iff.1 h0
   subst e0
   rw [wds_zero] at *
   go_enter Tryz.func224,Tryz.ntmps224
   go_wp2
   go_ret2
   exact ⟨rfl,Below.refl _ _⟩
  ·by_cases h1 : (wds n).length=1
   ·obtain ⟨b,off,rfl,hcl⟩:=hcell (by omega)
    have hc0:=hcl 0 (by omega)
    obtain ⟨e0,e1,_⟩:=wds_len1 h1
    rw [e0,Nat.add_zero] at hc0
    rw [wB_eq] at e1
    rw [h1] at *
    clear hcl hcell e0
    go_enter Tryz.func224,Tryz.ntmps224
    go_wp2
    go_ret2
    exact ⟨rfl,Below.refl _ _⟩
   ·have h2 : (wds n).length=2:=by omega
    obtain ⟨b,off,rfl,hcl⟩:=hcell (by omega)
    have hc0:=hcl 0 (by omega)
    have hc1:=hcl 1 (by omega)
    obtain ⟨e0,e1,e2,e3⟩:=wds_len2 h2
    rw [Nat.add_zero] at hc0
    rw [wB_eq] at e0 e1 e2 e3
    generalize wd (wds n) 0=x at *
    generalize wd (wds n) 1=y at *
    have E0:=Lib.hid e0
    clear e0
    rw [h2] at *
    clear hcl hcell
    go_enter Tryz.func224,Tryz.ntmps224
    go_wp2
    go_quiet (fail)
    go_wp2
    go_ret2
    have e4 : (n : Int)=x+1000000000 * y:=by have:=E0.out; omega
    exact ⟨by rw [e4]; rfl,below_drewN (Below.refl _ _) _⟩
 ·have hge:=wds_len_ge (Nat.le_of_not_lt hs)
  rw [smallOf,if_neg hs,decide_eq_false hs]
  clear hs
  have k0 : (((wds n).length : Int) == 0)=false:=beq_eq_false_iff_ne.2 (by omega)
  have k1 : (((wds n).length : Int) == 1)=false:=beq_eq_false_iff_ne.2 (by omega)
  have k2 : (((wds n).length : Int) == 2)=false:=beq_eq_false_iff_ne.2 (by omega)
  go_enter Tryz.func224,Tryz.ntmps224
  go_wp2
  go_ret2
  exact ⟨rfl,Below.refl _ _⟩
end Go.Proofs.YtopfedbhkfdjkaaGreatDoor


/- Words for the walks: append to a row of the call's own, a row that is made and stored into. Plain lemmas on the model's worlds: no function of the program. -/
namespace Go.Proofs.YtopfedbhkfdjkaaGreatDoor
open Go Go.RowKit
theorem heap_new (W : World) (o : Obj) : (W.alloc o).heap[W.heap.size]?=some o:=by
 rw [World.alloc]
 exact Array.getElem?_push_size
theorem own_base_le {w : World} {base sz n : Nat} {e : TypeId} {v : Value} {xs : List Value} (h : w.ownsRow base e sz v n xs) (k : Nat) (hk : v.ownBlock=some k) : base≤k:=(h.lt k hk).1
section
variable {P : Program} {ops : Array Oper} {rest : List Oper} {o : Oper} {a : Act} {Q : Exit→Act→World→Prop}
theorem append_box {w0 W : World} (base : Nat) (hgd : o.guard=none) (s x : Operand) (t e : TypeId) (z : Value) (size bytes : Nat)
  (ho : o.op=.call { callee:=.builtin .append,args:=#[s,x],argTypes:=#[t,t] })
  (ht : P.underlying t=some (.slice e)) (hinfo : (P.info? e).map (fun i=>(i.zero,i.size,i.bytes))=some (some z,size,bytes)) (hz : z.cells.size=size) (hsz : 0<size) (hb0 : 0<bytes)
  (v : Value) (n m : Nat) (xs ys : List Value) (hs : a.eval s=v) (hx : a.eval x=.slice (some ⟨W.heap.size,0,none⟩) m m) (hl : ys.length=m * size) (h1 : ∀ y,y ∈ ys→y.oneCell'=true)
  (HO : W.ownsRow base e size v n xs) (HB : Below base w0 W) (hbase : base≤W.heap.size) (hbytes : (n+m) * bytes≤140737488355328)
  (h : ∀ v1 w1,w1.ownsRow base e size v1 (n+m) (xs++ys)→Below base w0 w1→W.grownBy w1 v.ownBlock→wpList P ops Q rest (a.put o.dst v1) w1) :
  wpList P ops Q (o :: rest) a (W.alloc (.cells ys.toArray e)):=by
 obtain ⟨i0,hi,hzz⟩:=Option.map_eq_some_iff.1 hinfo
 simp only [Prod.mk.injEq] at hzz
 obtain ⟨hz0,hz1,hz2⟩:=hzz
 have hlen : n+m≤140737488355328:=Nat.le_trans (Nat.le_mul_of_pos_right _ hb0) hbytes
 refine wpList_append_own_at (W.alloc (.cells ys.toArray e)) hgd s x t ho base e i0 z size bytes ht hi hz0 hz1 hz2 hz hsz v n xs hs (HO.alloc _) ⟨W.heap.size,0,none⟩ m m ys hx hl ?_ h1 (by unfold maxLen; omega) hbytes (by simp; omega) ?_
 ·have hh:=World.news_of_block (w:=W.alloc (.cells ys.toArray e)) (B:=W.heap.size) (cs:=ys.toArray) (t:=e) (fr:=(0,0)) (heap_new W _)
  simpa using hh
 ·intro v1 w1 hown hg _ _
  exact h v1 w1 hown ((HB.alloc hbase _).grown hg (by simp; omega) (own_base_le HO)) ⟨hg.os,hg.tape,hg.output,Nat.le_trans (by simp) hg.size,fun k hk hne=>(hg.block k (by simp; omega) hne).trans (Below.heap_alloc _ _ _ hk)⟩
theorem append_word {w0 W : World} (base : Nat) (hgd : o.guard=none) (s x : Operand) (t : TypeId)
  (ho : o.op=.call { callee:=.builtin .append,args:=#[s,x],argTypes:=#[t,t] })
  (ht : P.underlying t=some (.slice 173)) (hinfo : (P.info? 173).map (fun i=>(i.zero,i.size,i.bytes))=some (some (.int .u32 0),1,4))
  (v : Value) (l : List Nat) (y : Nat) (u : Value) (hu : u=.int .u32 (y : Int)) (hs : a.eval s=v) (hx : a.eval x=.slice (some ⟨W.heap.size,0,none⟩) 1 1)
  (HO : Own W base v l) (HB : Below base w0 W) (hbase : base≤W.heap.size) (hbytes : l.length<10000000000000)
  (h : ∀ v1 w1,Own w1 base v1 (l++[y])→Below base w0 w1→W.grownBy w1 v.ownBlock→wpList P ops Q rest (a.put o.dst v1) w1) :
  wpList P ops Q (o :: rest) a (W.alloc (.cells #[u] 173)):=by
 subst hu
 refine append_box (w0:=w0) (W:=W) base hgd s x t 173 (.int .u32 0) 1 4 ho ht hinfo rfl (by omega) (by omega) v l.length 1 (u32s l) [.int .u32 (y : Int)] hs hx rfl (by simp [Value.oneCell']) HO HB hbase (by omega) ?_
 intro v1 w1 h1 h2 h3
 refine h v1 w1 ?_ h2 h3
 show w1.ownsRow _ _ _ _ (l++[y]).length (u32s (l++[y]))
 rw [List.length_append,List.length_singleton,u32s_append]
 exact h1
end
theorem info_u32 : (Tryz.prog.info? 173).map (fun i=>(i.zero,i.size,i.bytes))=some (some (.int .u32 0),1,4):=by kernel_rfl
theorem make_none (t : TypeId) (ht : Tryz.prog.underlying t=some (.slice 173)) (x : Int) (c : Nat) (hx : x=c) (hc : c≤10000000000000) (W : World) :
  (Instr.makeSlice t (.int .i64 0) (.int .i64 x)).run Tryz.prog W=.ok (.slice (some ⟨W.heap.size,0,none⟩) 0 c) (W.alloc (.cells (madeCells #[.int .u32 0] c) 173)):=by
 subst hx
 obtain ⟨i0,hi,hzz⟩:=Option.map_eq_some_iff.1 info_u32
 simp only [Prod.mk.injEq] at hzz
 obtain ⟨hz0,hz1,hz2⟩:=hzz
 have h:=run_make (P:=Tryz.prog) W t 173 i0 _ ht hi hz0 .i64 .i64 0 c (by omega) (by omega) (by rw [hz2]; omega) (by omega)
 rw [h,hz1]
 simp [Value.cells]
theorem make_full (t : TypeId) (ht : Tryz.prog.underlying t=some (.slice 173)) (x : Int) (c : Nat) (hx : x=c) (hc : c≤10000000000000) (W : World) :
  (Instr.makeSlice t (.int .i64 x) (.int .i64 x)).run Tryz.prog W=.ok (.slice (some ⟨W.heap.size,0,none⟩) c c) (W.alloc (.cells (madeCells #[.int .u32 0] c) 173)):=by
 subst hx
 obtain ⟨i0,hi,hzz⟩:=Option.map_eq_some_iff.1 info_u32
 simp only [Prod.mk.injEq] at hzz
 obtain ⟨hz0,hz1,hz2⟩:=hzz
 have h:=run_make (P:=Tryz.prog) W t 173 i0 _ ht hi hz0 .i64 .i64 c c (by omega) (by omega) (by rw [hz2]; omega) (by omega)
 rw [h,hz1]
 simp [Value.cells]
theorem own_room (W : World) (c : Nat) (hm : c≤9223372036854775807) :
  Own (W.alloc (.cells (madeCells #[.int .u32 0] c) 173)) W.heap.size (.slice (some ⟨W.heap.size,0,none⟩) 0 c) [] :=
 World.ownsRow_made W _ c (Nat.le_refl _) (by unfold maxLen; exact hm) (by simp [size_madeCells])
theorem own_made (W : World) (n : Nat) (hm : n≤9223372036854775807) :
  Own (W.alloc (.cells (madeCells #[.int .u32 0] n) 173)) W.heap.size (.slice (some ⟨W.heap.size,0,none⟩) n n) (List.replicate n 0):=by
 have h:=World.ownsRow_lit (base:=W.heap.size) (e:=173) (size:=1) W (madeCells #[.int .u32 0] n) n (Nat.le_refl _) (by unfold maxLen; exact hm) (by simp [size_madeCells])
 have hl : (madeCells #[Value.int .u32 0] n).toList=u32s (List.replicate n 0):=by
  rw [toList_madeCells_one]
  simp [u32s]
 rw [hl] at h
 show World.ownsRow _ _ _ _ _ (List.replicate n 0).length _
 rw [List.length_replicate]
 exact h
theorem Own.cell {w : World} {base g cap : Nat} {l : List Nat} (h : Own w base (.slice (some ⟨g,0,none⟩) l.length cap) l) (j : Nat) (hj : j<l.length) : w.cell? ⟨g,j,none⟩=some (.int .u32 (wd l j : Nat)):=by
 have:=World.ownsRow.cellAt h j (by omega)
 rw [this,u32s_get hj]
theorem Own.free {w : World} {base g cap : Nat} {l : List Nat} (h : Own w base (.slice (some ⟨g,0,none⟩) l.length cap) l) (j : Nat) : w.frozen? ⟨g,j,none⟩=false :=
 World.ownsRow.frozenAt h j
theorem Own.at {w : World} {base : Nat} {v : Value} {l : List Nat} (h : Own w base v l) (h0 : 0<l.length) : ∃ g cap,v=.slice (some ⟨g,0,none⟩) l.length cap∧base≤g∧g<w.heap.size:=by
 rcases h.2 with ⟨_,h1⟩ | ⟨g,cap,cur,h1,h2,h3,_⟩
 ·omega
 ·exact ⟨g,cap,h1,h2,(Array.getElem?_eq_some_iff.1 h3).1⟩
theorem Own.set {w : World} {base g cap : Nat} {l : List Nat} (h : Own w base (.slice (some ⟨g,0,none⟩) l.length cap) l) (j y : Nat) :
  Own (w.setCell ⟨g,j,none⟩ (.int .u32 (y : Int))) base (.slice (some ⟨g,0,none⟩) l.length cap) (l.set j y):=by
 have hs:=(World.ownsRow.stored h j (.int .u32 (y : Int))).1
 have he : (u32s l).set j (.int .u32 (y : Int))=u32s (l.set j y):=by simp [u32s,List.map_set]
 rw [he] at hs
 show World.ownsRow _ _ _ _ _ (l.set j y).length _
 rw [List.length_set]
 exact hs
end Go.Proofs.YtopfedbhkfdjkaaGreatDoor


/- natural: compare: what it returns, for every two numbers in their normal form. -/
namespace Go.Proofs.YtopfedbhkfdjkaaGreatDoor
open Go Go.RowKit
def cmpN (a b : Int) : Int:=if a<b then -1 else if b<a then 1 else 0
theorem cmpN_lt {a b : Int} (h : a<b) : cmpN a b = -1:=by unfold cmpN; rw [if_pos h]
theorem cmpN_gt {a b : Int} (h : b<a) : cmpN a b=1:=by unfold cmpN; rw [if_neg (by omega),if_pos h]
theorem cmpN_eq (a : Int) : cmpN a a=0:=by unfold cmpN; rw [if_neg (by omega),if_neg (by omega)]
theorem ret_int {k : IntKind} {a b : Int} (h : a=b) : Ending.returned (.int k a)=.returned (.int k b):=by rw [h]
set_option maxHeartbeats 400000 in
theorem isNaN_int_walk (a : Int) (w : World) : Calls Tryz.prog 256 #[.int .i64 a] w fun e w'=>e=.returned (.bool false)∧w=w':=by
 have h : (a != a)=false:=by simp
 go_enter Tryz.func256,Tryz.ntmps256
 go_wp2
 go_ret
 exact ⟨rfl,rfl⟩
set_option maxHeartbeats 400000 in
theorem isNaN_u32_walk (a : Int) (w : World) : Calls Tryz.prog 257 #[.int .u32 a] w fun e w'=>e=.returned (.bool false)∧w=w':=by
 have h : (a != a)=false:=by simp
 go_enter Tryz.func257,Tryz.ntmps257
 go_wp2
 go_ret
 exact ⟨rfl,rfl⟩
set_option maxHeartbeats 400000 in
theorem cmp_int_walk (a b : Int) (w : World) : Calls Tryz.prog 239 #[.int .i64 a,.int .i64 b] w fun e w'=>e=.returned (.int .i64 (cmpN a b))∧w'=w:=by
 go_enter Tryz.func239,Tryz.ntmps239
 go_wp2_with (go_at_call 256; refine (isNaN_int_walk _ _).mono ?_; rintro e w1 ⟨rfl,rfl⟩)
 ·go_ret
  exact ⟨(ret_int (cmpN_lt (by assumption))).symm,rfl⟩
 ·go_ret
  exact ⟨(ret_int (cmpN_gt (by assumption))).symm,rfl⟩
 ·go_ret
  have : a=b:=by omega
  subst this
  exact ⟨(ret_int (cmpN_eq _)).symm,rfl⟩
set_option maxHeartbeats 400000 in
theorem cmp_u32_walk (a b : Int) (w : World) : Calls Tryz.prog 240 #[.int .u32 a,.int .u32 b] w fun e w'=>e=.returned (.int .i64 (cmpN a b))∧w'=w:=by
 go_enter Tryz.func240,Tryz.ntmps240
 go_wp2_with (go_at_call 257; refine (isNaN_u32_walk _ _).mono ?_; rintro e w1 ⟨rfl,rfl⟩)
 ·go_ret
  exact ⟨(ret_int (cmpN_lt (by assumption))).symm,rfl⟩
 ·go_ret
  exact ⟨(ret_int (cmpN_gt (by assumption))).symm,rfl⟩
 ·go_ret
  have : a=b:=by omega
  subst this
  exact ⟨(ret_int (cmpN_eq _)).symm,rfl⟩
theorem cmp_by_length {n m : Nat} (h : (wds n).length≠(wds m).length) : cmpN (wds n).length (wds m).length=cmpN n m:=by
 rcases Nat.lt_or_ge (wds n).length (wds m).length with h1 | h1
 ·have h2 : n<m:=by
   have a:=lt_wds_pow n
   have b:=le_of_wds_length h1
   omega
  rw [cmpN_lt (by omega),cmpN_lt (by omega)]
 ·have h2 : m<n:=by
   have a:=lt_wds_pow m
   have b:=le_of_wds_length (show (wds m).length<(wds n).length by omega)
   omega
  rw [cmpN_gt (by omega),cmpN_gt (by omega)]
theorem cmp_by_word {n m k : Nat} (hl : (wds n).length=(wds m).length) (hk : k<(wds n).length) (ht : ∀ j,k<j→j<(wds n).length→wd (wds n) j=wd (wds m) j)
  (h : wd (wds n) k≠wd (wds m) k) : cmpN (wd (wds n) k) (wd (wds m) k)=cmpN n m:=by
 rcases Nat.lt_or_ge (wd (wds n) k) (wd (wds m) k) with h1 | h1
 ·have h2:=val_lt_of_top (okw_wds n) k hk hl ht h1
  rw [val_wds,val_wds] at h2
  rw [cmpN_lt (by omega),cmpN_lt (by omega)]
 ·have h2:=val_lt_of_top (okw_wds m) k (by omega) hl.symm (fun j a b=>(ht j a (by omega)).symm) (show wd (wds m) k<wd (wds n) k by omega)
  rw [val_wds,val_wds] at h2
  rw [cmpN_gt (by omega),cmpN_gt (by omega)]
theorem eq_by_words {n m : Nat} (hl : (wds n).length=(wds m).length) (ht : ∀ j,0≤j→j<(wds n).length→wd (wds n) j=wd (wds m) j) : n=m:=by
 refine wds_inj (List.ext_getElem hl fun i h1 h2=>?_)
 have:=ht i (by omega) h1
 unfold wd at this
 rwa [List.getD_eq_getElem?_getD,List.getElem?_eq_getElem h1,List.getD_eq_getElem?_getD,List.getElem?_eq_getElem h2] at this
set_option maxHeartbeats 1000000 in
theorem compare_walk (v u : Value) (n m : Nat) (w : World) (h : Num w v n) (g : Num w u m) :
  Calls Tryz.prog 218 #[v,u] w fun e w'=>e=.returned (.int .i64 (cmpN n m))∧Below w.heap.size w w':=by
 obtain ⟨A,cap,rfl,hn,hc,hcell⟩:=h.open
 obtain ⟨B,cap',rfl,gn,gc,gcell⟩:=g.open
 by_cases hl : (wds n).length=(wds m).length
 ·have k0 : (((wds n).length : Int) != ((wds m).length : Int))=false:=by rw [bne_eq_false_iff_eq]; omega
  have Hl:=Lib.hid hl
  clear hl
  go_enter Tryz.func218,Tryz.ntmps218
  go_wp2
  go_loopw [5] (fun i wr=>∃ k : Nat,k≤(wds n).length∧(∀ j,k≤j→j<(wds n).length→wd (wds n) j=wd (wds m) j)∧i=.int .i64 ((k : Int) - 1)∧Below w.heap.size w wr) (fun i _=>(intOf i+1).toNat)
  case atStart=>exact ⟨(wds n).length,Nat.le_refl _,fun j h1 h2=>by omega,rfl,Below.refl _ _⟩
  case round =>
   obtain ⟨k,hk,hz,rfl,hb⟩:=hrel
   have Hz:=Lib.hid hz
   clear hz
   have hll:=Hl.out
   by_cases h0 : k=0
   ·subst h0
    clear hll
    go_wp2
    go_ret
    have:=eq_by_words Hl.out Hz.out
    subst this
    exact ⟨(ret_int (cmpN_eq _)).symm,hb⟩
   ·obtain ⟨b,off,rfl,hcl⟩:=hcell (by omega)
    obtain ⟨b',off',rfl,gcl⟩:=gcell (by omega)
    have hck:=cell_below hb (hcl (k - 1) (by omega))
    have gck:=cell_below hb (gcl (k - 1) (by omega))
    have hkm : k≤(wds m).length:=by omega
    clear hll hcl gcl hcell gcell
    obtain ⟨j,rfl⟩ : ∃ j,k=j+1:=⟨k - 1,by omega⟩
    rw [Nat.add_sub_cancel] at hck gck
    by_cases hw : wd (wds n) j=wd (wds m) j
    ·have hbb : ((wd (wds n) j : Int) != (wd (wds m) j : Int))=false:=by rw [bne_eq_false_iff_eq]; omega
     have Hw:=Lib.hid hw
     clear hw
     go_wp2
     go_quiet (fail)
     go_wp2
     go_roundw
     case rel =>
      refine ⟨j,by omega,fun i h1 h2=>?_,by go_num,below_drewN hb _⟩
      by_cases e : i=j
      ·rw [e]; exact Hw.out
      ·exact Hz.out i (by omega) h2
     case measure=>simp [intOf]
    ·have hbb : ((wd (wds n) j : Int) != (wd (wds m) j : Int))=true:=by rw [bne_iff_ne]; omega
     have hfin:=cmp_by_word Hl.out (k:=j) (by omega) (fun i a b=>Hz.out i (by omega) b) hw
     have Hfin:=Lib.hid hfin
     clear hfin hw
     go_wp2
     go_quiet (fail)
     go_wp2
     go_quiet ((go_at_call 240; exact quiet_add_same (cmp_u32_walk _ _ _)))
     go_wp2
     go_ret
     exact ⟨ret_int Hfin.out,below_drewN (below_drewN hb _) _⟩
 ·have k0 : (((wds n).length : Int) != ((wds m).length : Int))=true:=by rw [bne_iff_ne]; omega
  have hfin:=cmp_by_length hl
  have Hfin:=Lib.hid hfin
  clear hfin hl
  go_enter Tryz.func218,Tryz.ntmps218
  go_wp2_with (go_at_call 239; refine (cmp_int_walk _ _ _).mono ?_; rintro e w1 ⟨rfl,rfl⟩)
  go_ret
  exact ⟨ret_int Hfin.out,Below.refl _ _⟩
end Go.Proofs.YtopfedbhkfdjkaaGreatDoor


/- natural: merge, plus and minus: sums and differences of numbers in their normal form. -/
namespace Go.Proofs.YtopfedbhkfdjkaaGreatDoor
open Go Go.RowKit
theorem mstep_neg {t : Int} (h : t.tmod 1000000000<0) : t.tmod 1000000000+1000000000=t % 1000000000∧t.tdiv 1000000000 - 1=t / 1000000000:=by
 have e:=Int.tmod_add_mul_tdiv t 1000000000
 have h2 : -1000000000<t.tmod 1000000000:=by
  rw [Int.tmod_eq_emod]
  split<;>omega
 omega
theorem mstep_pos {t : Int} (h : 0≤t.tmod 1000000000) : t.tmod 1000000000=t % 1000000000∧t.tdiv 1000000000=t / 1000000000:=by
 have e:=Int.tmod_add_mul_tdiv t 1000000000
 have h2 : t.tmod 1000000000<1000000000:=by
  rw [Int.tmod_eq_emod]
  split<;>omega
 omega
def pre (l : List Nat) (j : Nat) : Int:=(val (l.take j) : Int)
theorem pre_zero (l : List Nat) : pre l 0=0:=rfl
theorem pre_all {l : List Nat} {j : Nat} (h : l.length≤j) : pre l j=val l:=by rw [pre,List.take_of_length_le h]
theorem pre_succ {l : List Nat} {j : Nat} (h : j<l.length) : pre l (j+1)=pre l j + (wB : Int) ^ j * wd l j:=by
 rw [pre,pre,val_take_succ l j h]
 push_cast
 rfl
theorem pre_stop {l : List Nat} {j : Nat} (h : ¬ j<l.length) : pre l (j+1)=pre l j:=by rw [pre_all (by omega),pre_all (by omega)]
theorem pre_step (l : List Nat) (j : Nat) : pre l (j+1)=pre l j + (wB : Int) ^ j * wd l j:=by
 by_cases h : j<l.length
 ·exact pre_succ h
 ·rw [pre_stop h,wd_out h]; simp
def Msum (a b : List Nat) (s : Int) (l : List Nat) (c : Int) : Prop:=Okw l∧(val l : Int) + (wB : Int) ^ l.length * c=pre a l.length+s * pre b l.length∧-1≤c∧c≤1
theorem msum_next {a b : List Nat} {s : Int} {l : List Nat} {c t : Int} (h : Msum a b s l c) (hs : s=1∨s = -1) (ha : Okw a) (hb : Okw b) (ht : t=c+wd a l.length+s * wd b l.length) :
  Msum a b s (l++[(t % 1000000000).toNat]) (t / 1000000000)∧0≤t % 1000000000∧t % 1000000000<1000000000:=by
 obtain ⟨h1,h2,h3,h4⟩:=h
 have e1:=ha.get l.length
 have e2:=hb.get l.length
 rw [wB_eq] at e1 e2
 change wd a l.length<_ at e1
 change wd b l.length<_ at e2
 have hm : 0≤t % 1000000000∧t % 1000000000<1000000000:=by omega
 refine ⟨⟨h1.append (Okw.cons (by rw [wB_eq]; omega) Okw.nil), ?_, ?_, ?_⟩,hm⟩
 ·rw [List.length_append,List.length_singleton,val_snoc,pre_step,pre_step]
  have ht2 : ((t % 1000000000).toNat : Int)=t % 1000000000:=Int.toNat_of_nonneg hm.1
  have hd : t=t % 1000000000+1000000000 * (t / 1000000000):=by omega
  have hw : ((wB : Nat) : Int)=1000000000:=rfl
  rw [Int.pow_succ]
  push_cast
  rw [ht2]
  generalize (wB : Int) ^ l.length=p at *
  generalize t % 1000000000=r at *
  generalize t / 1000000000=q at *
  rw [hw]
  have e3 : p * r+p * 1000000000 * q=p * c+p * wd a l.length+s * (p * wd b l.length):=by
   rw [show p * r+p * 1000000000 * q=p * (r+1000000000 * q) by rw [Int.mul_add,Int.mul_assoc],← hd,ht,Int.mul_add,Int.mul_add]
   rw [show p * (s * (wd b l.length : Int))=s * (p * wd b l.length) by rw [← Int.mul_assoc,Int.mul_comm p s,Int.mul_assoc]]
  rw [Int.mul_add]
  omega
 ·rcases hs with rfl | rfl<;>omega
 ·rcases hs with rfl | rfl<;>omega
theorem msum_start (a b : List Nat) (s : Int) : Msum a b s [] 0:=⟨Okw.nil,by simp [pre_zero,val],by omega,by omega⟩
theorem msum_end {a b l : List Nat} {s c : Int} {L : Nat} (h : Msum a b s l c) (hl : l.length=L) (ha : a.length≤L) (hb : b.length≤L) (h0 : 0≤(val a : Int)+s * val b) :
  0≤c∧(c=0→(val l : Int)=val a+s * val b)∧(0<c→c=1∧((val (l++[1]) : Nat) : Int)=val a+s * val b∧Okw (l++[1])):=by
 obtain ⟨h1,h2,h3,h4⟩:=h
 rw [pre_all (by omega),pre_all (by omega)] at h2
 have hlt:=val_lt h1
 have hlt' : (val l : Int)<(wB : Int) ^ l.length:=by exact_mod_cast hlt
 have hc : 0≤c:=by
  rcases Int.lt_or_le c 0 with hc | hc
  ·obtain rfl : c = -1:=by omega
   rw [Int.mul_neg,Int.mul_one] at h2
   omega
  ·exact hc
 refine ⟨hc,fun e=>?_,fun e=>?_⟩
 ·subst e
  rw [Int.mul_zero] at h2
  omega
 ·obtain rfl : c=1:=by omega
  refine ⟨rfl, ?_,h1.append (Okw.cons (by decide) Okw.nil)⟩
  rw [val_snoc,Nat.mul_one]
  push_cast
  rw [Int.mul_one] at h2
  exact h2
theorem tmod_gt (t : Int) : -999999999≤t.tmod 1000000000:=by
 rw [Int.tmod_eq_emod]
 split<;>omega
theorem tmod_lt (t : Int) : t.tmod 1000000000≤999999999:=by
 rw [Int.tmod_eq_emod]
 split<;>omega
theorem tdiv_in {t : Int} (h1 : -2000000000≤t) (h2 : t≤2000000000) : -2≤t.tdiv 1000000000∧t.tdiv 1000000000≤2:=by
 have e:=Int.tmod_add_mul_tdiv t 1000000000
 have:=tmod_gt t
 have:=tmod_lt t
 omega
theorem word_lt {l : List Nat} (h : Okw l) (j : Nat) : (wd l j : Int)≤999999999:=by
 have:=h.get j
 rw [wB_eq] at this
 change wd l j<_ at this
 omega
theorem word_neg {t : Int} (h : t.tmod 1000000000<0) : (Value.int .u32 (t.tmod 1000000000+1000000000))=.int .u32 ((t % 1000000000).toNat : Int):=by
 rw [(mstep_neg h).1,Int.toNat_of_nonneg (by omega)]
theorem word_pos {t : Int} (h : 0≤t.tmod 1000000000) : (Value.int .u32 (t.tmod 1000000000))=.int .u32 ((t % 1000000000).toNat : Int):=by
 rw [(mstep_pos (by omega)).1,Int.toNat_of_nonneg (by omega)]
theorem wd_last (l : List Nat) (x : Nat) : wd (l++[x]) l.length=x:=by
 rw [wd,List.getD_eq_getElem?_getD,List.getElem?_append_right (Nat.le_refl _),Nat.sub_self]; rfl
set_option maxRecDepth 100000 in
set_option maxHeartbeats 8000000 in
theorem merge_walk (v u : Value) (n m : Nat) (s : Int) (hs : s=1∨s = -1) (w : World) (h : Num w v n) (g : Num w u m) (h0 : 0≤(n : Int)+s * m) (hf : (wds n).length≤1000000000) (gf : (wds m).length≤1000000000) :
  Calls Tryz.prog 238 #[v,u,.int .i64 s] w (Ret fun v' w'=>∃ l,Own w' w.heap.size v' l∧Okw l∧(val l : Int)=n+s * m ∧
   (l.length=max (wds n).length (wds m).length∨wd l (l.length - 1)≠0)∧Below w.heap.size w w'):=by
 obtain ⟨A,cap,rfl,hn,hc,hcell⟩:=h.open
 obtain ⟨B,cap',rfl,gn,gc,gcell⟩:=g.open
 clear h g
 have hmk:=fun W=>make_none 258 Tryz.underlying258 (((wds n).length : Int)+1) ((wds n).length+1) (by omega) (by omega) W
 have H0:=Lib.hid h0
 have Hs:=Lib.hid hs
 clear h0 hs
 obtain ⟨L,hL⟩ : ∃ L,L=max (wds n).length (wds m).length:=⟨_,rfl⟩
 have HL:=Lib.hid hL
 clear hL
 rcases Nat.lt_or_ge (wds n).length (wds m).length with hlt | hlt
 ·go_enter Tryz.func238,Tryz.ntmps238
  go_wp2
  obtain rfl : L=(wds m).length:=by have:=HL.out; omega
  go_loopw [7,8,20] (fun vv cc kk wr=>∃ (l : List Nat) (c : Int),l.length≤(wds m).length∧Own wr w.heap.size vv l∧Msum (wds n) (wds m) s l c∧cc=.int .i64 c∧kk=.int .i64 l.length∧Below w.heap.size w wr) (fun _ _ kk _=>(wds m).length - (intOf kk).toNat)
  case atStart=>exact ⟨[],0,by simp,own_room _ _ (by omega),msum_start _ _ _,rfl,rfl,(Below.refl _ _).alloc (Nat.le_refl _) _⟩
  case round =>
   obtain ⟨l,c,hk,hown,hsum,rfl,rfl,hb⟩:=hrel
   by_cases hlt0 : l.length<(wds m).length
   ·have hc1:=hsum.2.2.1
    have hc2:=hsum.2.2.2
    have hw1 : (wd (wds n) l.length : Int)≤999999999:=word_lt (okw_wds n) _
    have hw2 : (wd (wds m) l.length : Int)≤999999999:=word_lt (okw_wds m) _
    obtain ⟨y,hy⟩ : ∃ y : Int,y=s * (wd (wds m) l.length : Int):=⟨_,rfl⟩
    have hy1 : -999999999≤y:=by rcases Hs.out with e | e<;>(rw [hy,e]; omega)
    have hy2 : y≤999999999:=by rcases Hs.out with e | e<;>(rw [hy,e]; omega)
    have hyw : wrap64 (s * (wd (wds m) l.length : Int))=y:=by rw [← hy]; unfold wrap64; omega
    have hY:=Lib.hid hy
    clear hy
    have hlt2 : l.length<(wds m).length:=hlt0
    obtain ⟨b',off',rfl,gcl⟩:=gcell (by omega)
    have gck:=cell_below hb (gcl l.length hlt2)
    clear gcl gcell
    by_cases hlt1 : l.length<(wds n).length
    ·obtain ⟨b,off,rfl,hcl⟩:=hcell (by omega)
     have hck:=cell_below hb (hcl l.length hlt1)
     clear hcl hcell
     have tm1 : -999999999≤(c + (wd (wds n) l.length : Int)+y).tmod 1000000000:=tmod_gt _
     have tm2 : (c + (wd (wds n) l.length : Int)+y).tmod 1000000000≤999999999:=tmod_lt _
     obtain ⟨td1,td2⟩:=tdiv_in (t:=(c + (wd (wds n) l.length : Int)+y)) (by omega) (by omega)
     have hT : c + (wd (wds n) l.length : Int)+y=c+wd (wds n) l.length+s * wd (wds m) l.length:=by rw [hY.out]
     have hnext:=msum_next hsum Hs.out (okw_wds n) (okw_wds m) hT
     have hN:=Lib.hid hnext
     have hTT:=Lib.hid hT
     clear hnext hT hsum
     go_wp2_with (at_builtin; refine append_word (w0:=w) w.heap.size rfl (.tmp 57) (.tmp 60) 258 rfl Tryz.underlying258 info_u32 _ l (((c + (wd (wds n) l.length : Int)+y) % 1000000000).toNat) _ (by first | exact word_neg (by assumption) | exact word_pos (by assumption)) rfl rfl hown hb hb.size (by omega) ?_; intro v1 w1 hown1 hb1 hg1)
     ·go_roundw
      case rel=>exact ⟨_,_,by rw [List.length_append,List.length_singleton]; omega,hown1,hN.out.1,by rw [(mstep_neg (by assumption)).2],by rw [List.length_append,List.length_singleton]; go_num,hb1⟩
      case measure=>simp [intOf]; omega
     ·go_roundw
      case rel=>exact ⟨_,_,by rw [List.length_append,List.length_singleton]; omega,hown1,hN.out.1,by rw [(mstep_pos (by assumption)).2],by rw [List.length_append,List.length_singleton]; go_num,hb1⟩
      case measure=>simp [intOf]; omega
    ·
     have tm1 : -999999999≤(c+y).tmod 1000000000:=tmod_gt _
     have tm2 : (c+y).tmod 1000000000≤999999999:=tmod_lt _
     obtain ⟨td1,td2⟩:=tdiv_in (t:=(c+y)) (by omega) (by omega)
     have hT : c+y=c+wd (wds n) l.length+s * wd (wds m) l.length:=by rw [wd_out hlt1,hY.out]; simp
     have hnext:=msum_next hsum Hs.out (okw_wds n) (okw_wds m) hT
     have hN:=Lib.hid hnext
     have hTT:=Lib.hid hT
     clear hnext hT hsum
     go_wp2_with (at_builtin; refine append_word (w0:=w) w.heap.size rfl (.tmp 57) (.tmp 60) 258 rfl Tryz.underlying258 info_u32 _ l (((c+y) % 1000000000).toNat) _ (by first | exact word_neg (by assumption) | exact word_pos (by assumption)) rfl rfl hown hb hb.size (by omega) ?_; intro v1 w1 hown1 hb1 hg1)
     ·go_roundw
      case rel=>exact ⟨_,_,by rw [List.length_append,List.length_singleton]; omega,hown1,hN.out.1,by rw [(mstep_neg (by assumption)).2],by rw [List.length_append,List.length_singleton]; go_num,hb1⟩
      case measure=>simp [intOf]; omega
     ·go_roundw
      case rel=>exact ⟨_,_,by rw [List.length_append,List.length_singleton]; omega,hown1,hN.out.1,by rw [(mstep_pos (by assumption)).2],by rw [List.length_append,List.length_singleton]; go_num,hb1⟩
      case measure=>simp [intOf]; omega
   ·have hL : l.length=(wds m).length:=by omega
    have hend:=msum_end hsum hL (by omega) (by omega) (by rw [val_wds,val_wds]; exact H0.out)
    rw [val_wds,val_wds] at hend
    have hE:=Lib.hid hend
    have hO:=Lib.hid hsum.1
    have HLL:=Lib.hid hL
    have hc0:=hend.1
    clear hend hsum hL
    by_cases hcz : 0<c
    ·obtain ⟨rfl,e2,e3⟩:=hE.out.2.2 hcz
     have E2:=Lib.hid e2
     clear e2 hcz
     go_wp2_with (at_builtin; refine append_word (w0:=w) w.heap.size rfl (.tmp 65) (.tmp 68) 258 rfl Tryz.underlying258 info_u32 _ l 1 _ rfl rfl rfl hown hb hb.size (by omega) ?_; intro v1 w1 hown1 hb1 hg1)
     go_ret
     exact ⟨_,rfl,_,hown1,e3,E2.out,.inr (by rw [List.length_append,List.length_singleton,Nat.add_sub_cancel,wd_last]; omega),hb1⟩
    ·obtain rfl : c=0:=by omega
     have e2:=hE.out.2.1 rfl
     have E2:=Lib.hid e2
     clear e2 hcz
     go_wp2
     go_ret
     exact ⟨_,rfl,_,hown,hO.out,E2.out,.inl (by have:=HLL.out; omega),hb⟩
 ·go_enter Tryz.func238,Tryz.ntmps238
  go_wp2
  obtain rfl : L=(wds n).length:=by have:=HL.out; omega
  go_loopw [7,8,20] (fun vv cc kk wr=>∃ (l : List Nat) (c : Int),l.length≤(wds n).length∧Own wr w.heap.size vv l∧Msum (wds n) (wds m) s l c∧cc=.int .i64 c∧kk=.int .i64 l.length∧Below w.heap.size w wr) (fun _ _ kk _=>(wds n).length - (intOf kk).toNat)
  case atStart=>exact ⟨[],0,by simp,own_room _ _ (by omega),msum_start _ _ _,rfl,rfl,(Below.refl _ _).alloc (Nat.le_refl _) _⟩
  case round =>
   obtain ⟨l,c,hk,hown,hsum,rfl,rfl,hb⟩:=hrel
   by_cases hlt0 : l.length<(wds n).length
   ·have hc1:=hsum.2.2.1
    have hc2:=hsum.2.2.2
    have hw1 : (wd (wds n) l.length : Int)≤999999999:=word_lt (okw_wds n) _
    have hw2 : (wd (wds m) l.length : Int)≤999999999:=word_lt (okw_wds m) _
    obtain ⟨y,hy⟩ : ∃ y : Int,y=s * (wd (wds m) l.length : Int):=⟨_,rfl⟩
    have hy1 : -999999999≤y:=by rcases Hs.out with e | e<;>(rw [hy,e]; omega)
    have hy2 : y≤999999999:=by rcases Hs.out with e | e<;>(rw [hy,e]; omega)
    have hyw : wrap64 (s * (wd (wds m) l.length : Int))=y:=by rw [← hy]; unfold wrap64; omega
    have hY:=Lib.hid hy
    clear hy
    have hlt1 : l.length<(wds n).length:=hlt0
    obtain ⟨b,off,rfl,hcl⟩:=hcell (by omega)
    have hck:=cell_below hb (hcl l.length hlt1)
    clear hcl hcell
    by_cases hlt2 : l.length<(wds m).length
    ·obtain ⟨b',off',rfl,gcl⟩:=gcell (by omega)
     have gck:=cell_below hb (gcl l.length hlt2)
     clear gcl gcell
     have tm1 : -999999999≤(c + (wd (wds n) l.length : Int)+y).tmod 1000000000:=tmod_gt _
     have tm2 : (c + (wd (wds n) l.length : Int)+y).tmod 1000000000≤999999999:=tmod_lt _
     obtain ⟨td1,td2⟩:=tdiv_in (t:=(c + (wd (wds n) l.length : Int)+y)) (by omega) (by omega)
     have hT : c + (wd (wds n) l.length : Int)+y=c+wd (wds n) l.length+s * wd (wds m) l.length:=by rw [hY.out]
     have hnext:=msum_next hsum Hs.out (okw_wds n) (okw_wds m) hT
     have hN:=Lib.hid hnext
     have hTT:=Lib.hid hT
     clear hnext hT hsum
     go_wp2_with (at_builtin; refine append_word (w0:=w) w.heap.size rfl (.tmp 57) (.tmp 60) 258 rfl Tryz.underlying258 info_u32 _ l (((c + (wd (wds n) l.length : Int)+y) % 1000000000).toNat) _ (by first | exact word_neg (by assumption) | exact word_pos (by assumption)) rfl rfl hown hb hb.size (by omega) ?_; intro v1 w1 hown1 hb1 hg1)
     ·go_roundw
      case rel=>exact ⟨_,_,by rw [List.length_append,List.length_singleton]; omega,hown1,hN.out.1,by rw [(mstep_neg (by assumption)).2],by rw [List.length_append,List.length_singleton]; go_num,hb1⟩
      case measure=>simp [intOf]; omega
     ·go_roundw
      case rel=>exact ⟨_,_,by rw [List.length_append,List.length_singleton]; omega,hown1,hN.out.1,by rw [(mstep_pos (by assumption)).2],by rw [List.length_append,List.length_singleton]; go_num,hb1⟩
      case measure=>simp [intOf]; omega
    ·
     have tm1 : -999999999≤(c + (wd (wds n) l.length : Int)).tmod 1000000000:=tmod_gt _
     have tm2 : (c + (wd (wds n) l.length : Int)).tmod 1000000000≤999999999:=tmod_lt _
     obtain ⟨td1,td2⟩:=tdiv_in (t:=(c + (wd (wds n) l.length : Int))) (by omega) (by omega)
     have hT : c + (wd (wds n) l.length : Int)=c+wd (wds n) l.length+s * wd (wds m) l.length:=by rw [wd_out hlt2]; simp
     have hnext:=msum_next hsum Hs.out (okw_wds n) (okw_wds m) hT
     have hN:=Lib.hid hnext
     have hTT:=Lib.hid hT
     clear hnext hT hsum
     go_wp2_with (at_builtin; refine append_word (w0:=w) w.heap.size rfl (.tmp 57) (.tmp 60) 258 rfl Tryz.underlying258 info_u32 _ l (((c + (wd (wds n) l.length : Int)) % 1000000000).toNat) _ (by first | exact word_neg (by assumption) | exact word_pos (by assumption)) rfl rfl hown hb hb.size (by omega) ?_; intro v1 w1 hown1 hb1 hg1)
     ·go_roundw
      case rel=>exact ⟨_,_,by rw [List.length_append,List.length_singleton]; omega,hown1,hN.out.1,by rw [(mstep_neg (by assumption)).2],by rw [List.length_append,List.length_singleton]; go_num,hb1⟩
      case measure=>simp [intOf]; omega
     ·go_roundw
      case rel=>exact ⟨_,_,by rw [List.length_append,List.length_singleton]; omega,hown1,hN.out.1,by rw [(mstep_pos (by assumption)).2],by rw [List.length_append,List.length_singleton]; go_num,hb1⟩
      case measure=>simp [intOf]; omega
   ·have hL : l.length=(wds n).length:=by omega
    have hend:=msum_end hsum hL (by omega) (by omega) (by rw [val_wds,val_wds]; exact H0.out)
    rw [val_wds,val_wds] at hend
    have hE:=Lib.hid hend
    have hO:=Lib.hid hsum.1
    have HLL:=Lib.hid hL
    have hc0:=hend.1
    clear hend hsum hL
    by_cases hcz : 0<c
    ·obtain ⟨rfl,e2,e3⟩:=hE.out.2.2 hcz
     have E2:=Lib.hid e2
     clear e2 hcz
     go_wp2_with (at_builtin; refine append_word (w0:=w) w.heap.size rfl (.tmp 65) (.tmp 68) 258 rfl Tryz.underlying258 info_u32 _ l 1 _ rfl rfl rfl hown hb hb.size (by omega) ?_; intro v1 w1 hown1 hb1 hg1)
     go_ret
     exact ⟨_,rfl,_,hown1,e3,E2.out,.inr (by rw [List.length_append,List.length_singleton,Nat.add_sub_cancel,wd_last]; omega),hb1⟩
    ·obtain rfl : c=0:=by omega
     have e2:=hE.out.2.1 rfl
     have E2:=Lib.hid e2
     clear e2 hcz
     go_wp2
     go_ret
     exact ⟨_,rfl,_,hown,hO.out,E2.out,.inl (by have:=HLL.out; omega),hb⟩
theorem sum_lnz {n m : Nat} {l : List Nat} (ho : Okw l) (hv : val l=n+m) (h : l.length=max (wds n).length (wds m).length∨wd l (l.length - 1)≠0) : l=wds (n+m):=by
 rw [← hv]
 refine (wds_of_lnz ho ?_).symm
 rcases h with h | h
 ·by_cases h0 : l.length=0
  ·exact .inl (List.length_eq_zero_iff.1 h0)
  ·refine .inr fun hz=>?_
   have e:=val_take_succ l (l.length - 1) (by omega)
   rw [show l.length - 1+1=l.length by omega,List.take_of_length_le (Nat.le_refl _),hz,Nat.mul_zero,Nat.add_zero] at e
   have h1:=val_lt (ho.take (l.length - 1))
   rw [List.length_take,Nat.min_eq_left (by omega)] at h1
   rcases Nat.le_total (wds n).length (wds m).length with h2 | h2
   ·have h3:=le_of_wds_length (n:=m) (k:=l.length - 1) (by omega)
    omega
   ·have h3:=le_of_wds_length (n:=n) (k:=l.length - 1) (by omega)
    omega
 ·exact .inr h
set_option maxHeartbeats 400000 in
theorem plus_walk (v u : Value) (n m : Nat) (w : World) (h : Num w v n) (g : Num w u m) (hf : (wds n).length≤1000000000) (gf : (wds m).length≤1000000000) :
  Calls Tryz.prog 217 #[v,u] w (Ret fun v' w'=>NumO w' w.heap.size v' (n+m)∧Below w.heap.size w w'):=by
 go_enter Tryz.func217,Tryz.ntmps217
 go_wp2_with fail
 refine (merge_walk v u n m 1 (.inl rfl) w h g (by omega) hf gf).mono ?_
 rintro e w1 ⟨v1,rfl,l,h1,h2,h3,h4,h5⟩
 go_wp2
 go_ret
 have e:=sum_lnz h2 (by omega) h4
 subst e
 exact ⟨_,rfl,h1,h5⟩
set_option maxHeartbeats 400000 in
theorem minus_walk (v u : Value) (n m : Nat) (hle : m≤n) (w : World) (h : Num w v n) (g : Num w u m) (hf : (wds n).length≤1000000000) (gf : (wds m).length≤1000000000) :
  Calls Tryz.prog 219 #[v,u] w (Ret fun v' w'=>NumO w' w.heap.size v' (n - m)∧Below w.heap.size w w'):=by
 go_enter Tryz.func219,Tryz.ntmps219
 go_wp2_with fail
 refine (merge_walk v u n m (-1) (.inr rfl) w h g (by omega) hf gf).mono ?_
 rintro e w1 ⟨v1,rfl,l,h1,h2,h3,h4,h5⟩
 obtain ⟨A,cap,rfl,_,_⟩:=h1.form
 go_wp2_with fail
 refine (trim_walk A l cap w1 h1.u32 h2).mono ?_
 rintro e w2 ⟨rfl,rfl⟩
 go_wp2
 go_ret
 have e : val l=n - m:=by omega
 have:=h1.trim h2
 rw [e] at this ⊢
 exact ⟨_,rfl,this,h5⟩
end Go.Proofs.YtopfedbhkfdjkaaGreatDoor


/- natural: times: products of numbers in their normal form. -/
namespace Go.Proofs.YtopfedbhkfdjkaaGreatDoor
open Go Go.RowKit
def Mrow (a b : List Nat) (i : Nat) (l : List Nat) : Prop:=l.length=a.length+b.length∧Okw l∧val l=preN a i * val b∧∀ j,i+b.length≤j→wd l j=0
def Mcol (a b : List Nat) (i k : Nat) (l : List Nat) (c : Nat) : Prop:=l.length=a.length+b.length∧Okw l∧c≤999999999∧val l+wB ^ (i+k) * c=preN a i * val b+wB ^ i * wd a i * preN b k∧∀ j,i+b.length≤j→wd l j=0
theorem mrow_start (a b : List Nat) : Mrow a b 0 (List.replicate (a.length+b.length) 0):=by
 refine ⟨by simp,Okw.replicate _,by rw [val_replicate,preN_zero,Nat.zero_mul],fun j _=>?_⟩
 unfold wd
 rw [List.getD_eq_getElem?_getD,List.getElem?_replicate]
 split<;>rfl
theorem mcol_start {a b l : List Nat} {i : Nat} (h : Mrow a b i l) : Mcol a b i 0 l 0 :=
 ⟨h.1,h.2.1,by omega,by rw [h.2.2.1,preN_zero,Nat.mul_zero,Nat.mul_zero],h.2.2.2⟩
theorem mcol_next {a b l : List Nat} {i k c s : Nat} (h : Mcol a b i k l c) (ha : Okw a) (hb : Okw b) (hi : i<a.length) (hk : k<b.length) (hs : s=c+wd a i * wd b k+wd l (i+k)) :
  Mcol a b i (k+1) (l.set (i+k) (s % wB)) (s / wB):=by
 obtain ⟨h1,h2,h3,h4,h5⟩:=h
 have hx:=ha.get i
 have hy:=hb.get k
 have hz:=h2.get (i+k)
 change wd a i<_ at hx
 change wd b k<_ at hy
 change wd l (i+k)<_ at hz
 rw [wB_eq] at hx hy hz
 have hxy : wd a i * wd b k≤999999999 * 999999999:=Nat.mul_le_mul (by omega) (by omega)
 refine ⟨by rw [List.length_set]; exact h1,h2.set _ _ (Nat.mod_lt _ wB_pos), ?_, ?_,fun j hj=>?_⟩
 ·have : s / wB<1000000000:=by
   rw [Nat.div_lt_iff_lt_mul wB_pos,wB_eq]; omega
  omega
 ·have e:=val_set (l:=l) (j:=i+k) (by omega) (s % wB)
  rw [preN_succ hk,← Nat.add_assoc,Nat.pow_succ]
  have e2 : wB ^ (i+k) * wB * (s / wB)=wB ^ (i+k) * (wB * (s / wB)):=Nat.mul_assoc _ _ _
  have e3 : wB ^ (i+k) * (s % wB)+wB ^ (i+k) * (wB * (s / wB))=wB ^ (i+k) * s:=by rw [← Nat.mul_add,Nat.mod_add_div]
  have e4 : wB ^ (i+k) * s=wB ^ (i+k) * c+wB ^ (i+k) * (wd a i * wd b k)+wB ^ (i+k) * wd l (i+k):=by rw [hs,Nat.mul_add,Nat.mul_add]
  have e5 : wB ^ i * wd a i * (wB ^ k * wd b k)=wB ^ (i+k) * (wd a i * wd b k):=by
   rw [Nat.pow_add]
   ac_rfl
  rw [e2,Nat.mul_add,e5]
  omega
 ·rw [wd_set (by omega),if_neg (by omega)]
  exact h5 j hj
theorem mcol_end {a b l : List Nat} {i c : Nat} (h : Mcol a b i b.length l c) (hi : i<a.length) : Mrow a b (i+1) (l.set (i+b.length) c):=by
 obtain ⟨h1,h2,h3,h4,h5⟩:=h
 refine ⟨by rw [List.length_set]; exact h1,h2.set _ _ (by rw [wB_eq]; omega), ?_,fun j hj=>?_⟩
 ·have e:=val_set (l:=l) (j:=i+b.length) (by omega) c
  rw [h5 _ (Nat.le_refl _),Nat.mul_zero,Nat.add_zero] at e
  rw [e,h4,preN_all (Nat.le_refl _),preN_succ hi,Nat.add_mul]
 ·rw [wd_set (by omega),if_neg (by omega)]
  exact h5 j (by omega)
theorem word_div (c p z : Nat) : Value.int .u64 (((c : Int) + ((p : Int) + (z : Int))) / 1000000000)=.int .u64 (((c+p+z) / wB : Nat) : Int):=by
 rw [wB_eq]; congr 1; omega
theorem word_mod (c p z : Nat) : Value.int .u32 (((c : Int) + ((p : Int) + (z : Int))) % 1000000000)=.int .u32 (((c+p+z) % wB : Nat) : Int):=by
 rw [wB_eq]; congr 1; omega
set_option maxRecDepth 100000 in
set_option maxHeartbeats 4000000 in
theorem times_walk (v u : Value) (n m : Nat) (w : World) (h : Num w v n) (g : Num w u m) (hf : (wds n).length≤1000000000) (gf : (wds m).length≤1000000000) :
  Calls Tryz.prog 199 #[v,u] w (Ret fun v' w'=>NumO w' w.heap.size v' (n * m)∧Below w.heap.size w w'):=by
 obtain ⟨A,cap,rfl,hn,hc,hcell⟩:=h.open
 obtain ⟨B,cap',rfl,gn,gc,gcell⟩:=g.open
 clear h g
 have hmk:=fun W=>make_full 258 Tryz.underlying258 (((wds n).length : Int) + (wds m).length) ((wds n).length + (wds m).length) (by omega) (by omega) W
 go_enter Tryz.func199,Tryz.ntmps199
 go_wp2
 have hmade:=own_made w ((wds n).length + (wds m).length) (by omega)
 clear hmk
 go_loopw [19] (fun ii wr=>∃ (i : Nat) (l : List Nat),i≤(wds n).length∧ii=.int .i64 i∧Mrow (wds n) (wds m) i l∧Own wr w.heap.size (.slice (some ⟨w.heap.size,0,none⟩) l.length ((wds n).length + (wds m).length)) l∧Below w.heap.size w wr) (fun ii _=>(wds n).length - (intOf ii).toNat)
 case atStart =>
  refine ⟨0,_,Nat.zero_le _,rfl,mrow_start _ _, ?_,(Below.refl _ _).alloc (Nat.le_refl _) _⟩
  rw [List.length_replicate]
  exact hmade
 case round =>
  obtain ⟨i,l,hi,rfl,hrow,hown,hb⟩:=hrel
  clear hmade
  by_cases hlt : i<(wds n).length
  ·obtain ⟨b,off,rfl,hcl⟩:=hcell (by omega)
   have hck:=cell_below hb (hcl i hlt)
   clear hcl hcell
   obtain ⟨wo,rfl⟩ : ∃ wo : World,wo=wr:=⟨_,rfl⟩
   have hx1 : (wd (wds n) i : Int)≤999999999:=word_lt (okw_wds n) i
   go_wp2
   go_loopw [8,26] (fun cc kk wr=>∃ (k : Nat) (l : List Nat) (c : Nat),k≤(wds m).length∧cc=.int .u64 c∧kk=.int .i64 k∧Mcol (wds n) (wds m) i k l c∧Own wr w.heap.size (.slice (some ⟨w.heap.size,0,none⟩) l.length ((wds n).length + (wds m).length)) l∧Below w.heap.size w wr) (fun _ kk _=>(wds m).length - (intOf kk).toNat)
   case atStart=>exact ⟨0,l,0,Nat.zero_le _,rfl,rfl,mcol_start hrow,hown,hb⟩
   case round =>
    clear hown hb hrow hck
    obtain ⟨k,l,c,hk,rfl,rfl,hcol,hown,hb⟩:=hrel
    have hl:=hcol.1
    have hc9 : (c : Int)≤999999999:=by have:=hcol.2.2.1; omega
    by_cases hlt2 : k<(wds m).length
    ·obtain ⟨b',off',rfl,gcl⟩:=gcell (by omega)
     have gck:=cell_below hb (gcl k hlt2)
     have hck:=hown.cell (i+k) (by omega)
     have hfr:=hown.free (i+k)
     have hy1 : (wd (wds m) k : Int)≤999999999:=word_lt (okw_wds m) k
     have hz1 : (wd l (i+k) : Int)≤999999999:=word_lt hcol.2.1 _
     obtain ⟨p,hp⟩ : ∃ p,p=wd (wds n) i * wd (wds m) k:=⟨_,rfl⟩
     have hp1 : (p : Int)≤999999998000000001:=by
      have : wd (wds n) i * wd (wds m) k≤999999999 * 999999999:=Nat.mul_le_mul (by omega) (by omega)
      omega
     have hpI : (wd (wds n) i : Int) * (wd (wds m) k : Int)=p:=by rw [hp,Int.natCast_mul]
     have hN:=Lib.hid (mcol_next hcol (okw_wds n) (okw_wds m) hlt hlt2 (s:=c+p+wd l (i+k)) (by rw [hp]))
     have hl1 : i+k<(wds n).length + (wds m).length:=by omega
     have HL:=Lib.hid hl
     have HO:=Lib.hid hown
     clear gcl gcell hp hcol hl hown
     go_wp2
     have HS:=HO.out.set (i+k) ((c+p+wd l (i+k)) % wB)
     rw [word_mod]
     go_roundw
     case rel=>exact ⟨k+1,_,_,by omega,word_div _ _ _,by go_num,hN.out,by rw [List.length_set] at *; exact HS,hb.setCell (Nat.le_refl _) _⟩
     case measure=>simp [intOf]; omega
    ·obtain rfl : k=(wds m).length:=by omega
     have hl1 : i + (wds m).length<(wds n).length + (wds m).length:=by omega
     have hck:=hown.cell (i + (wds m).length) (by omega)
     have hfr:=hown.free (i + (wds m).length)
     have hN:=Lib.hid (mcol_end hcol hlt)
     have HL:=Lib.hid hl
     have HO:=Lib.hid hown
     clear hcol hl hown
     go_wp2
     have HS:=HO.out.set (i + (wds m).length) c
     go_roundw
     case rel=>exact ⟨i+1,_,by omega,by go_num,hN.out,by rw [List.length_set] at *; exact HS,hb.setCell (Nat.le_refl _) _⟩
     case measure=>simp [intOf]; omega
  ·obtain rfl : i=(wds n).length:=by omega
   obtain ⟨h1,h2,h3,h4⟩:=hrow
   rw [preN_all (Nat.le_refl _),val_wds,val_wds] at h3
   have H3:=Lib.hid h3
   have H4:=Lib.hid h4
   have H1:=Lib.hid h1
   clear h3 h4 h1
   go_wp2_with fail
   rw [← H1.out] at hown ⊢
   refine (trim_walk _ l _ wr hown.u32 h2).mono ?_
   rintro e w2 ⟨rfl,rfl⟩
   go_wp2
   go_ret
   have:=hown.trim h2
   rw [H3.out] at this ⊢
   exact ⟨_,rfl,this,hb⟩
end Go.Proofs.YtopfedbhkfdjkaaGreatDoor


/- natural: by: the quotient and the remainder by one word. -/
namespace Go.Proofs.YtopfedbhkfdjkaaGreatDoor
open Go Go.RowKit
def Bdiv (a : List Nat) (d k : Nat) (l : List Nat) (r : Nat) : Prop:=l.length=a.length∧Okw l∧r<d∧val (a.drop k)=d * val (l.drop k)+r
theorem bdiv_start (a : List Nat) {d : Nat} (h : 0<d) : Bdiv a d a.length (List.replicate a.length 0) 0:=by
 refine ⟨by simp,Okw.replicate _,h, ?_⟩
 rw [List.drop_of_length_le (Nat.le_refl _),List.drop_of_length_le (by simp)]
 rfl
theorem bdiv_next {a l : List Nat} {d k r s : Nat} (h : Bdiv a d (k+1) l r) (hd : d≤999999999) (ha : Okw a) (hk : k<a.length) (hs : s=r * wB+wd a k) :
  Bdiv a d k (l.set k (s / d)) (s % d)∧s / d<wB:=by
 obtain ⟨h1,h2,h3,h4⟩:=h
 have hx:=ha.get k
 change wd a k<_ at hx
 have hq : s / d<wB:=by
  rw [Nat.div_lt_iff_lt_mul (by omega),hs]
  have : (r+1) * wB≤d * wB:=Nat.mul_le_mul_right _ h3
  rw [Nat.add_mul,Nat.one_mul] at this
  rw [Nat.mul_comm wB d]
  omega
 refine ⟨⟨by rw [List.length_set]; exact h1,h2.set _ _ hq,Nat.mod_lt _ (by omega), ?_⟩,hq⟩
 rw [drop_wd hk,drop_wd (l:=l.set k (s / d)) (by rw [List.length_set]; omega),val_cons,val_cons,wd_set (by omega),if_pos rfl,drop_set_same,h4]
 have e:=Nat.div_add_mod s d
 have e2 : wB * (d * val (l.drop (k+1))+r)=d * (wB * val (l.drop (k+1)))+r * wB:=by
  rw [Nat.mul_add,Nat.mul_comm wB r]
  have : wB * (d * val (l.drop (k+1)))=d * (wB * val (l.drop (k+1))):=by ac_rfl
  omega
 rw [e2,Nat.mul_add]
 omega
theorem bdiv_end {a l : List Nat} {d r : Nat} (h : Bdiv a d 0 l r) (hd : 0<d) : val l=val a / d∧r=val a % d:=by
 obtain ⟨h1,h2,h3,h4⟩:=h
 rw [List.drop_zero,List.drop_zero] at h4
 rw [h4]
 constructor
 ·rw [Nat.add_comm,Nat.add_mul_div_left _ _ hd,Nat.div_eq_of_lt h3,Nat.zero_add]
 ·rw [Nat.mul_add_mod,Nat.mod_eq_of_lt h3]
theorem cast_word (r x : Nat) : ((r * 1000000000+x : Nat) : Int)=(r : Int) * 1000000000 + (x : Int):=by omega
theorem word_quo (r x d : Nat) (h : (r * wB+x) / d<wB) : Value.int .u32 (((r : Int) * 1000000000 + (x : Int)) / (d : Int) % 4294967296)=.int .u32 (((r * wB+x) / d : Nat) : Int):=by
 have e : (((r : Int) * 1000000000 + (x : Int)) / (d : Int))=(((r * wB+x) / d : Nat) : Int):=by rw [Int.natCast_ediv,wB_eq,cast_word]
 rw [e]
 generalize (r * wB+x) / d=q at h ⊢
 rw [wB_eq] at h
 congr 1
 omega
theorem word_rem (r x d : Nat) : Value.int .u64 (((r : Int) * 1000000000 + (x : Int)) % (d : Int))=.int .u64 (((r * wB+x) % d : Nat) : Int):=by
 rw [Int.natCast_emod,wB_eq,cast_word]
set_option maxRecDepth 100000 in
set_option maxHeartbeats 4000000 in
theorem by_walk (v : Value) (n d : Nat) (hd0 : 0<d) (hd : d≤999999999) (w : World) (h : Num w v n) (hf : (wds n).length≤2000000000) :
  Calls Tryz.prog 243 #[v,.int .u64 d] w (Ret2 fun v1 v2 w'=>NumO w' w.heap.size v1 (n / d)∧NumO w' w.heap.size v2 (n % d)∧Below w.heap.size w w'):=by
 obtain ⟨A,cap,rfl,hn,hc,hcell⟩:=h.open
 clear h
 have hmk:=fun W=>make_full 258 Tryz.underlying258 ((wds n).length : Int) (wds n).length (by omega) (by omega) W
 go_enter Tryz.func243,Tryz.ntmps243
 go_wp2
 have hmade:=own_made w (wds n).length (by omega)
 clear hmk
 go_loopw [7,8] (fun rr ii wr=>∃ (k : Nat) (l : List Nat) (r : Nat),k≤(wds n).length∧rr=.int .u64 r∧ii=.int .i64 ((k : Int) - 1)∧Bdiv (wds n) d k l r∧Own wr w.heap.size (.slice (some ⟨w.heap.size,0,none⟩) l.length (wds n).length) l∧Below w.heap.size w wr) (fun _ ii _=>(intOf ii+1).toNat)
 case atStart =>
  refine ⟨_,_,0,Nat.le_refl _,rfl,rfl,bdiv_start _ hd0, ?_,(Below.refl _ _).alloc (Nat.le_refl _) _⟩
  rw [List.length_replicate]
  exact hmade
 case round =>
  obtain ⟨k,l,r,hk,rfl,rfl,hdiv,hown,hb⟩:=hrel
  clear hmade
  by_cases h0 : k=0
  ·subst h0
   obtain ⟨e1,e2⟩:=bdiv_end hdiv hd0
   rw [val_wds] at e1 e2
   have H1:=Lib.hid hdiv.1
   have E1:=Lib.hid e1
   have E2:=Lib.hid e2
   have ho:=hdiv.2.1
   have hr : r<wB * wB:=by have:=hdiv.2.2.1; rw [wB_eq]; omega
   clear hdiv e1 e2
   go_wp2_with fail
   rw [← H1.out] at hown ⊢
   refine (trim_walk _ l _ wr hown.u32 ho).mono ?_
   rintro e w2 ⟨rfl,rfl⟩
   go_wp2_with fail
   refine (of_walk r hr _).mono ?_
   rintro e w2 ⟨v2,rfl,g1,g2⟩
   go_wp2
   go_ret2
   have:=(hown.trim ho).below g2
   rw [E1.out] at this ⊢
   rw [E2.out] at g1
   exact ⟨_,_,rfl,this,g1.base hb.size,below_then hb hb.size g2⟩
  ·obtain ⟨j,rfl⟩ : ∃ j,k=j+1:=⟨k - 1,by omega⟩
   obtain ⟨b,off,rfl,hcl⟩:=hcell (by omega)
   have hck:=cell_below hb (hcl j (by omega))
   have hl:=hdiv.1
   have hfr:=hown.free j
   have hcc:=hown.cell j (by omega)
   have hx1 : (wd (wds n) j : Int)≤999999999:=word_lt (okw_wds n) j
   have hr1 : (r : Int)≤999999999:=by have:=hdiv.2.2.1; omega
   have hdI : (1 : Int)≤d:=by omega
   obtain ⟨hnx,hq⟩:=bdiv_next hdiv hd (okw_wds n) (by omega) (s:=r * wB+wd (wds n) j) rfl
   have hN:=Lib.hid hnx
   have hQ:=Lib.hid hq
   have HL:=Lib.hid hl
   have HO:=Lib.hid hown
   have hjl : j<(wds n).length:=by omega
   clear hcl hcell hdiv hl hown hnx hq
   go_wp2
   rw [word_quo _ _ _ hQ.out]
   have HS:=HO.out.set j ((r * wB+wd (wds n) j) / d)
   go_roundw
   case rel=>exact ⟨j,_,_,by omega,word_rem _ _ _,rfl,hN.out,by rw [List.length_set] at *; exact HS,hb.setCell (Nat.le_refl _) _⟩
   case measure=>simp [intOf]
end Go.Proofs.YtopfedbhkfdjkaaGreatDoor


/- natural: divide, where the divisor is greater, where both numbers have at most two words, and where the divisor has one word. -/
namespace Go.Proofs.YtopfedbhkfdjkaaGreatDoor
open Go Go.RowKit
theorem num_zero (w : World) : Num w (.slice none 0 0) 0:=by
 unfold Num
 rw [wds_zero]
 exact U32.mk (l:=[]) (by simp) (by omega) (fun h=>by simp at h)
set_option maxRecDepth 100000 in
set_option maxHeartbeats 4000000 in
theorem divide_less (v u : Value) (n m : Nat) (hlt : n<m) (w : World) (h : Num w v n) (g : Num w u m) :
  Calls Tryz.prog 226 #[v,u] w (Ret2 fun v1 v2 w'=>Num w' v1 (n / m)∧Num w' v2 (n % m)∧Below w.heap.size w w'):=by
 rw [Nat.div_eq_of_lt hlt,Nat.mod_eq_of_lt hlt]
 go_enter Tryz.func226,Tryz.ntmps226
 go_wp2_with fail
 refine (compare_walk v u n m w h g).mono ?_
 rintro e w1 ⟨rfl,hb⟩
 rw [cmpN_lt (by omega)]
 go_wp2
 go_ret2
 exact ⟨_,_,rfl,num_zero _,h.below hb,hb⟩
theorem of_int (x : Int) (h0 : 0≤x) (hx : x≤999999999999999999) (w : World) :
  Calls Tryz.prog 225 #[.int .u64 x] w (Ret fun v w'=>NumO w' w.heap.size v x.toNat∧Below w.heap.size w w'):=by
 obtain ⟨n,rfl⟩:=Int.eq_ofNat_of_zero_le h0
 rw [Int.toNat_natCast]
 exact of_walk n (by rw [wB_eq]; omega) w
theorem toNat_div (n m : Nat) : ((n : Int) / (m : Int)).toNat=n / m:=by rw [← Int.natCast_ediv,Int.toNat_natCast]
theorem toNat_mod (n m : Nat) : ((n : Int) % (m : Int)).toNat=n % m:=by rw [← Int.natCast_emod,Int.toNat_natCast]
set_option maxRecDepth 100000 in
set_option maxHeartbeats 400000 in
theorem divide_small (v u : Value) (n m : Nat) (hlt : m≤n) (hm : 0<m) (hn : n<wB * wB) (w : World) (h : Num w v n) (g : Num w u m) :
  Calls Tryz.prog 226 #[v,u] w (Ret2 fun v1 v2 w'=>Num w' v1 (n / m)∧Num w' v2 (n % m)∧Below w.heap.size w w'):=by
 have hc : ¬ cmpN n m<0:=by unfold cmpN; split<;>(try split)<;>omega
 have hn' : (n : Int)≤999999999999999999:=by rw [wB_eq] at hn; omega
 have hm' : (1 : Int)≤m:=by omega
 have hmn : m<wB * wB:=by omega
 have Hn:=Lib.hid hn
 have Hm:=Lib.hid hmn
 have HM:=Lib.hid hm
 clear hn hmn hlt hm
 go_enter Tryz.func226,Tryz.ntmps226
 go_wp2_with fail
 refine (compare_walk v u n m w h g).mono ?_
 rintro e w1 ⟨rfl,hb⟩
 go_wp2_with fail
 refine (small_walk v n w1 (h.below hb)).mono ?_
 rintro e w2 ⟨rfl,hb2⟩
 rw [smallOf,if_pos Hn.out,decide_eq_true Hn.out]
 have hb3:=below_then hb hb.size hb2
 go_wp2_with fail
 refine (small_walk u m w2 (g.below hb3)).mono ?_
 rintro e w3 ⟨rfl,hb4⟩
 rw [smallOf,if_pos Hm.out,decide_eq_true Hm.out]
 have hb5:=below_then hb3 hb3.size hb4
 clear hb hb2 hb3 hb4 h g hc
 have q0 : (0 : Int)≤(n : Int) / (m : Int):=by rw [← Int.natCast_ediv]; exact Int.natCast_nonneg _
 have q1 : (n : Int) / (m : Int)≤999999999999999999:=by
  have:=Nat.div_le_self n m
  rw [← Int.natCast_ediv]
  generalize n / m=q at *
  omega
 have r0 : (0 : Int)≤(n : Int) % (m : Int):=by rw [← Int.natCast_emod]; exact Int.natCast_nonneg _
 have r1 : (n : Int) % (m : Int)≤999999999999999999:=by
  have:=Nat.mod_le n m
  rw [← Int.natCast_emod]
  generalize n % m=q at *
  omega
 have hm0 : ¬ m=0:=by omega
 have hw : IntKind.u64.wrap ((n : Int) / (m : Int))=(n : Int) / (m : Int):=IntWalk.u64_in _ ⟨q0,by omega⟩
 have hr : (n : Int).tmod (m : Int)=(n : Int) % (m : Int):=Int.tmod_eq_emod_of_nonneg (Int.natCast_nonneg _)
 go_wp2_with fail
 go_region_with (first
   | (go_at_call_of 225 (Value.int IntKind.u64 ((n : Int) / (m : Int))); refine (of_int ((n : Int) / (m : Int)) q0 q1 _).mono ?_; rintro e w4 ⟨v4,rfl,g1,g2⟩; have hB1:=below_then hb5.drew hb5.drew.size g2)
   | (go_at_call_of 225 (Value.int IntKind.u64 ((n : Int) % (m : Int))); refine (of_int ((n : Int) % (m : Int)) r0 r1 _).mono ?_; rintro e w5 ⟨v5,rfl,g3,g4⟩; have hB2:=below_then hB1 hB1.size g4))
 go_wp2
 go_ret2
 rw [toNat_div] at g1
 rw [toNat_mod] at g3
 exact ⟨_,_,rfl,(NumO.below g1 g4).num,g3.num,hB2⟩
set_option maxRecDepth 100000 in
set_option maxHeartbeats 1000000 in
theorem divide_word (v u : Value) (n m : Nat) (hlt : m≤n) (hm : 0<m) (hm1 : m<wB) (hn : wB * wB≤n) (w : World) (h : Num w v n) (g : Num w u m) (hf : (wds n).length≤2000000000) :
  Calls Tryz.prog 226 #[v,u] w (Ret2 fun v1 v2 w'=>Num w' v1 (n / m)∧Num w' v2 (n % m)∧Below w.heap.size w w'):=by
 have hc : ¬ cmpN n m<0:=by unfold cmpN; split<;>(try split)<;>omega
 have hmn : m<wB * wB:=Nat.lt_of_lt_of_le hm1 (by decide)
 have hone:=wds_one_word (n:=m) (by omega) hm1
 have hm9 : m≤999999999:=by rw [wB_eq] at hm1; omega
 have hmI : (m : Int)≤999999999:=by omega
 have Hn:=Lib.hid hn
 have Hm:=Lib.hid hmn
 have H0:=Lib.hid hm
 have H1:=Lib.hid hone
 have H9:=Lib.hid hm9
 clear hn hmn hlt hm hm1 hone hm9
 go_enter Tryz.func226,Tryz.ntmps226
 go_wp2_with fail
 refine (compare_walk v u n m w h g).mono ?_
 rintro e w1 ⟨rfl,hb⟩
 go_wp2_with fail
 refine (small_walk v n w1 (h.below hb)).mono ?_
 rintro e w2 ⟨rfl,hb2⟩
 rw [smallOf,if_neg (Nat.not_lt.2 Hn.out),decide_eq_false (Nat.not_lt.2 Hn.out)]
 have hb3:=below_then hb hb.size hb2
 go_wp2_with fail
 refine (small_walk u m w2 (g.below hb3)).mono ?_
 rintro e w3 ⟨rfl,hb4⟩
 rw [smallOf,if_pos Hm.out,decide_eq_true Hm.out]
 have hb5:=below_then hb3 hb3.size hb4
 have h5:=h.below hb5
 obtain ⟨A,cap,rfl,gn,gc,gcell⟩:=(g.below hb5).open
 rw [H1.out] at gn gcell ⊢
 obtain ⟨b,off,rfl,hcl⟩:=gcell (by simp)
 have hck:=hcl 0 (by simp)
 have e0 : wd [m] 0=m:=rfl
 rw [e0,Nat.add_zero] at hck
 clear hb hb2 hb3 hb4 h g hc gcell hcl e0
 go_wp2_with fail
 refine (by_walk v n m H0.out H9.out w3 h5 hf).mono ?_
 rintro e w4 ⟨v1,v2,rfl,g1,g2,g3⟩
 go_wp2
 go_ret2
 exact ⟨_,_,rfl,g1.num,g2.num,below_then hb5 hb5.size g3⟩
end Go.Proofs.YtopfedbhkfdjkaaGreatDoor


/- natural: divide, the long division: for every two numbers of two words or more. -/
namespace Go.Proofs.YtopfedbhkfdjkaaGreatDoor
open Go Go.RowKit
theorem Own.far {w : World} {base g cap n : Nat} {l : List Nat} (h : Own w base (.slice (some ⟨g,0,none⟩) n cap) l) {p : Addr} (hp : p.block≠g) (x : Value) : Own (w.setCell p x) base (.slice (some ⟨g,0,none⟩) n cap) l:=by
 refine ⟨h.1, ?_⟩
 rcases h.2 with ⟨h1,_⟩ | ⟨g',cap',cur,h1,h2,h3,h4⟩
 ·cases h1
 ·simp only [Value.slice.injEq,Option.some.injEq,Addr.mk.injEq] at h1
  obtain ⟨⟨rfl,_,_⟩,_,_⟩:=h1
  exact .inr ⟨g,cap',cur,by simp_all,h2,(Below.heap_setCell w p x g (fun e=>hp e.symm)).trans h3,h4⟩
theorem Own.drewN {w : World} {base : Nat} {v : Value} {l : List Nat} (h : Own w base v l) (k : Nat) : Own (w.drewN k) base v l:=h
structure Dst (w0 wr : World) (gu gv gq cu cv cq : Nat) (l vl qs : List Nat) : Prop where
 u : Own wr w0.heap.size (.slice (some ⟨gu,0,none⟩) l.length cu) l
 v : Own wr w0.heap.size (.slice (some ⟨gv,0,none⟩) vl.length cv) vl
 q : Own wr w0.heap.size (.slice (some ⟨gq,0,none⟩) qs.length cq) qs
 uv : gu≠gv
 uq : gu≠gq
 vq : gv≠gq
 hu : w0.heap.size≤gu
 hq : w0.heap.size≤gq
 b : Below w0.heap.size w0 wr
theorem Dst.drewN {w0 wr : World} {gu gv gq cu cv cq : Nat} {l vl qs : List Nat} (h : Dst w0 wr gu gv gq cu cv cq l vl qs) (k : Nat) : Dst w0 (wr.drewN k) gu gv gq cu cv cq l vl qs :=
 ⟨h.u,h.v,h.q,h.uv,h.uq,h.vq,h.hu,h.hq,below_drewN h.b k⟩
theorem Dst.set_u {w0 wr : World} {gu gv gq cu cv cq : Nat} {l vl qs : List Nat} (h : Dst w0 wr gu gv gq cu cv cq l vl qs) (j y : Nat) :
  Dst w0 (wr.setCell ⟨gu,j,none⟩ (.int .u32 (y : Int))) gu gv gq cu cv cq (l.set j y) vl qs :=
 ⟨by have:=h.u.set j y; rw [List.length_set] at *; exact this,h.v.far h.uv _,h.q.far h.uq _,h.uv,h.uq,h.vq,h.hu,h.hq,h.b.setCell h.hu _⟩
theorem Dst.set_q {w0 wr : World} {gu gv gq cu cv cq : Nat} {l vl qs : List Nat} (h : Dst w0 wr gu gv gq cu cv cq l vl qs) (j y : Nat) :
  Dst w0 (wr.setCell ⟨gq,j,none⟩ (.int .u32 (y : Int))) gu gv gq cu cv cq l vl (qs.set j y) :=
 ⟨h.u.far (fun e=>h.uq e.symm) _,h.v.far (fun e=>h.vq e.symm) _,by have:=h.q.set j y; rw [List.length_set] at *; exact this,h.uv,h.uq,h.vq,h.hu,h.hq,h.b.setCell h.hq _⟩
theorem msub_nat {l0 v l : List Nat} {j g i c b pp c' pm d' b' : Nat} (h : Msub l0 v j g i l c b) (hv : Okw v) (hg : g≤1000000000) (hi : i<v.length) (hj : j+i<l0.length)
  (hpp : pp=g * wd v i+c) (hc : c'=pp / 1000000000) (hpm : pm=pp % 1000000000) (hd : wd l (i+j)+1000000000 * b'=d' + pm+b) (hb : b'≤1) (hd' : d'≤999999999) :
  Msub l0 v j g (i+1) (l.set (i+j) d') c' b':=by
 have e1 : (pp : Int)=g * wd v i+c:=by rw [hpp]; push_cast; rfl
 have e2:=(msub_next h hv hg hi hj (p:=(pp : Int)) (d:=(wd l (i+j) : Int) - (pp : Int) % 1000000000 - b) (d':=(d' : Int)) (b':=(b' : Int)) e1 rfl (by omega)).1
 rw [Int.toNat_natCast,Int.toNat_natCast] at e2
 have e3 : ((pp : Int) / 1000000000).toNat=c':=by omega
 rwa [e3] at e2
set_option maxRecDepth 100000 in
set_option maxHeartbeats 20000000 in
theorem divide_long (v u : Value) (n m : Nat) (hlt : m≤n) (hk : 2≤(wds m).length) (hn : wB * wB≤n) (w : World) (h : Num w v n) (g : Num w u m) (hf : (wds n).length≤900000000) :
  Calls Tryz.prog 226 #[v,u] w (Ret2 fun v1 v2 w'=>Num w' v1 (n / m)∧Num w' v2 (n % m)∧Below w.heap.size w w'):=by
 obtain ⟨An,capn,rfl,_,_,_⟩:=h.open
 have hc : ¬ cmpN n m<0:=by unfold cmpN; split<;>(try split)<;>omega
 have hml : (wds m).length≤(wds n).length:=wds_mono_length hlt
 have k1 : (((wds m).length : Int) == 1)=false:=beq_eq_false_iff_ne.2 (by omega)
 obtain ⟨f,hfe⟩ : ∃ f,f=wB / (wd (wds m) ((wds m).length - 1)+1):=⟨_,rfl⟩
 obtain ⟨n1,n2,n3,n4⟩:=norm_div rfl (by omega) hfe
 obtain ⟨t1,t2,t3,t4⟩:=top_word (n:=m) rfl (by omega)
 obtain ⟨tp,htp⟩ : ∃ tp,tp=wd (wds m) ((wds m).length - 1):=⟨_,rfl⟩
 rw [← htp] at hfe t1 t2 t3 t4
 have tp1 : (1 : Int)≤tp:=by omega
 have tp2 : (tp : Int)≤999999999:=by rw [wB_eq] at t4; omega
 have hfI : (1000000000 : Int) / ((tp : Int)+1)=f:=by rw [hfe,wB_eq,Int.natCast_ediv]; rfl
 have q0 : (0 : Int)≤(1000000000 : Int) / ((tp : Int)+1):=by rw [hfI]; exact Int.natCast_nonneg _
 have q1 : (1000000000 : Int) / ((tp : Int)+1)≤999999999999999999:=by rw [hfI]; omega
 have Hn:=Lib.hid hn
 have HF:=Lib.hid hfI
 have Hfe:=Lib.hid hfe
 have Htp:=Lib.hid htp
 clear hn hfI hfe htp t1 t2 t3 t4
 go_enter Tryz.func226,Tryz.ntmps226
 go_wp2_with fail
 refine (compare_walk _ u n m w h g).mono ?_
 rintro e w1 ⟨rfl,hb⟩
 go_wp2_with fail
 refine (small_walk _ n w1 (h.below hb)).mono ?_
 rintro e w2 ⟨rfl,hb2⟩
 rw [smallOf,if_neg (Nat.not_lt.2 Hn.out),decide_eq_false (Nat.not_lt.2 Hn.out)]
 have hb3:=below_then hb hb.size hb2
 go_wp2_with fail
 refine (small_walk u m w2 (g.below hb3)).mono ?_
 rintro e w3 ⟨rfl,hb4⟩
 generalize smallOf m=sm
 generalize decide (m<wB * wB)=bm
 have hb5:=below_then hb3 hb3.size hb4
 have h5:=h.below hb5
 have g5:=g.below hb5
 clear hb hb2 hb3 hb4 h g hc
 obtain ⟨A,cap,rfl,gn,gc,gcell⟩:=g5.open
 obtain ⟨b,off,rfl,hcl⟩:=gcell (by omega)
 have hck:=hcl ((wds m).length - 1) (by omega)
 rw [← Htp.out] at hck
 clear gcell hcl
 go_wp2_with fail
 refine (of_int _ q0 q1 _).mono ?_
 rintro e w4 ⟨vf,rfl,f1,f2⟩
 rw [HF.out,Int.toNat_natCast] at f1
 have hb6:=below_then hb5 hb5.size f2
 have h6:=h5.below f2
 have g6 : Num w4 (.slice (some ⟨b,off,none⟩) (wds m).length cap) m:=g5.below f2
 have ff : (wds f).length≤1:=wds_lt_pow (by rw [Nat.pow_one,wB_eq]; omega)
 clear q0 q1 hck hb5 h5 g5 f2 tp1 tp2
 go_wp2_with fail
 refine (times_walk _ _ n f w4 h6 f1.num (by omega) (by omega)).mono ?_
 rintro e w5 ⟨v83,rfl,x1,x2⟩
 have lnf : (wds (n * f)).length≤(wds n).length+1:=by
  refine wds_lt_pow ?_
  have a1:=lt_wds_pow n
  have a2 : n * f<wB ^ (wds n).length * wB:=Nat.mul_lt_mul_of_lt_of_le a1 (by rw [wB_eq]; omega) wB_pos
  rw [Nat.pow_succ]; exact a2
 have lnn : (wds n).length≤(wds (n * f)).length:=wds_mono_length (Nat.le_mul_of_pos_right _ n3)
 go_wp2_with (at_builtin; refine append_word (w0:=w4) w4.heap.size rfl (.tmp 83) (.tmp 84) 258 rfl Tryz.underlying258 info_u32 _ (wds (n * f)) 0 _ rfl rfl rfl x1 x2 x2.size (by omega) ?_; intro v85 w6 hown6 hb8 hg6)
 go_wp2_with fail
 refine (times_walk _ _ m f w6 (g6.below hb8) (f1.below hb8).num (by omega) (by omega)).mono ?_
 rintro e w7 ⟨v88,rfl,y1,y2⟩
 obtain ⟨l0,hl0⟩ : ∃ l0,l0=wds (n * f)++[0]:=⟨_,rfl⟩
 have hl0l : l0.length=(wds (n * f)).length+1:=by rw [hl0]; simp
 obtain ⟨vl,hvl⟩ : ∃ vl,vl=wds (m * f):=⟨_,rfl⟩
 have hvll : vl.length=(wds m).length:=by rw [hvl,n1]
 have Y1 : Own w7 w6.heap.size v88 vl:=by rw [hvl]; exact y1
 rw [← hl0] at hown6
 obtain ⟨gu,cu,rfl,u1,u2⟩:=hown6.at (by omega)
 obtain ⟨gv,cv,rfl,u3,u4⟩:=Y1.at (by omega)
 have hmk:=fun W=>make_full 258 Tryz.underlying258 ((l0.length : Int) - (vl.length : Int)) (l0.length - vl.length) (by omega) (by omega) W
 have k3 : ((l0.length : Int) == ((wds n).length : Int))=false:=beq_eq_false_iff_ne.2 (by omega)
 have hst : Dst w4 (w7.alloc (.cells (madeCells #[.int .u32 0] (l0.length - vl.length)) 173)) gu gv w7.heap.size cu cv (l0.length - vl.length) l0 vl (List.replicate (l0.length - vl.length) 0):=by
  have e2:=hb8.size
  have e3:=y2.size
  refine ⟨?_, ?_, ?_,by omega,by omega,by omega,by omega,by omega, ?_⟩
  ·exact (hown6.below y2).below ((Below.refl _ _).alloc (Nat.le_refl _) _)
  ·exact (Y1.base e2).below ((Below.refl _ _).alloc (Nat.le_refl _) _)
  ·have:=own_made w7 (l0.length - vl.length) (by omega)
   rw [List.length_replicate]
   exact this.base (by omega)
  ·exact (below_then hb8 e2 y2).alloc (by omega) _
 have hb0 : l0.length≤1000000000:=by omega
 have hb1 : vl.length+1≤l0.length:=by omega
 have hb2 : 2≤vl.length:=by omega
 have HL0:=Lib.hid hl0
 have HVL:=Lib.hid hvl
 have HLL:=Lib.hid hl0l
 have HVV:=Lib.hid hvll
 have F1:=Lib.hid f1.num
 have HB6:=Lib.hid hb6
 clear hown6 Y1 y1 hl0 hvl hl0l hvll x1 x2 f1 h6 g6 hb6 hb8 y2 hg6
 go_wp2_with fail
 clear hmk
 obtain ⟨Lq,hLq⟩ : ∃ Lq,Lq=l0.length - vl.length:=⟨_,rfl⟩
 obtain ⟨gq,hgq⟩ : ∃ gq,gq=w7.heap.size:=⟨_,rfl⟩
 rw [← hLq,← hgq] at hst ⊢
 have hLu : l0.length=Lq+vl.length:=by omega
 have HLu:=Lib.hid hLu
 have hdv : Dv (n * f) (m * f) l0.length Lq Lq l0 (List.replicate Lq 0):=by
  have:=dv_start (U:=n * f) (V:=m * f) (Lu:=l0.length) (k:=vl.length) (l:=l0) rfl (by rw [HL0.out]; exact (okw_wds _).append (Okw.cons wB_pos Okw.nil)) (by rw [HL0.out,val_snoc,val_wds,Nat.mul_zero,Nat.add_zero]) (by omega)
   (by rw [HLL.out,Nat.add_sub_cancel,HL0.out,wd_last]) (le_of_wds_length (by rw [← HVL.out]; omega)) (by omega)
  rw [← hLq] at this
  exact this
 clear hLq hgq hLu k3 k1
 go_loopw [15] (fun jj wr=>∃ (t : Nat) (l qs : List Nat),t≤Lq∧jj=.int .i64 ((t : Int) - 1)∧Dv (n * f) (m * f) l0.length Lq t l qs∧Dst w4 wr gu gv gq cu cv Lq l vl qs) (fun jj _=>(intOf jj+1).toNat)
 case atStart=>exact ⟨Lq,_,_,Nat.le_refl _,rfl,hdv,hst⟩
 case round =>
  obtain ⟨t,l,qs,ht,rfl,hd,hs⟩:=hrel
  clear hdv hst
  by_cases h0 : t=0
  ·subst h0
   obtain ⟨d1,d2⟩:=dv_end hd
   have hokl:=hd.2.1
   have hokq:=hd.2.2.2.1
   have hql:=hd.2.2.1
   have hll:=hd.1
   have hvalv : val vl=m * f:=by rw [HVL.out,val_wds]
   have hVk : m * f<wB ^ vl.length:=by
    have hokv : Okw vl:=by rw [HVL.out]; exact okw_wds _
    have:=val_lt hokv
    rwa [hvalv] at this
   have hV0 : 0<m * f:=by have:=hd.2.2.2.2.1; omega
   have hlt2 : val l<wB ^ vl.length:=by rw [d2]; exact Nat.lt_trans (Nat.mod_lt _ hV0) hVk
   have hvt : val (l.take vl.length)=val l:=val_take_zero (by have:=HLu.out; omega) (fun jj h1 _=>wd_zero_of_lt hlt2 h1)
   have hm0 : 0<m:=Nat.pos_of_mul_pos_right hV0
   have e1 : n * f / (m * f)=n / m:=Nat.mul_div_mul_right n m n3
   have e2 : n * f % (m * f)=n % m * f:=Nat.mul_mod_mul_right f n m
   have hfs : f<wB * wB:=by rw [wB_eq]; omega
   have hcu : vl.length≤cu:=by
    obtain ⟨A',cap',hv',hn',_⟩:=hs.u.form
    cases hv'
    have:=HLu.out
    omega
   have D1:=Lib.hid d1
   have D2:=Lib.hid d2
   have HVT:=Lib.hid hvt
   have E1:=Lib.hid e1
   have E2:=Lib.hid e2
   have HQL:=Lib.hid hql
   have HLL2:=Lib.hid hll
   have HLT:=Lib.hid hlt2
   have HFS:=Lib.hid hfs
   have HM0:=Lib.hid hm0
   clear d1 d2 hvt e1 e2 hql hll hlt2 hvalv hVk hV0 hfs hm0 hd
   go_wp2_with fail
   refine (small_walk vf f wr (F1.out.below hs.b)).mono ?_
   rintro e w8 ⟨rfl,hb9⟩
   rw [smallOf,if_pos HFS.out,decide_eq_true HFS.out]
   have hbf : (f : Int)≤500000000:=by omega
   go_wp2_with fail
   have hu8:=hs.u.below hb9
   have hq8:=hs.q.below hb9
   have htk:=hu8.take vl.length (by have:=HLL2.out; have:=HLu.out; omega)
   have hlt3 : (l.take vl.length).length=vl.length:=by rw [List.length_take]; have:=HLL2.out; omega
   have htk2 : U32 w8 (.slice (some ⟨gu,0,none⟩) (l.take vl.length).length cu) (l.take vl.length):=by rw [hlt3]; exact htk.u32
   have hTW:=trim_walk (some ⟨gu,0,none⟩) (l.take vl.length) cu w8 htk2 (hokl.take _)
   rw [hlt3] at hTW
   refine hTW.mono ?_
   rintro e w9 ⟨rfl,rfl⟩
   rw [HVT.out]
   have hnum : Num w9 (.slice (some ⟨gu,0,none⟩) (wds (val l)).length cu) (val l):=by
    have:=U32.take htk2 (wds (val (l.take vl.length))).length (take_wds (hokl.take _)).2
    rw [(take_wds (hokl.take _)).1,HVT.out] at this
    exact this
   go_wp2_with fail
   refine (by_walk _ (val l) f n3 (by omega) w9 hnum (Nat.le_trans (wds_lt_pow HLT.out) (by omega))).mono ?_
   rintro e w10 ⟨v1,v2,rfl,r1,r2,r3⟩
   have hq10:=hq8.below r3
   have hTQ:=trim_walk (some ⟨gq,0,none⟩) qs Lq w10 hq10.u32 hokq
   rw [HQL.out] at hTQ
   go_wp2_with fail
   refine hTQ.mono ?_
   rintro e w11 ⟨rfl,rfl⟩
   have hqn:=(hq10.trim hokq).num
   rw [D1.out,E1.out] at hqn ⊢
   rw [D2.out,E2.out,Nat.mul_div_cancel _ (by omega : 0<f)] at r1
   go_wp2
   go_ret2
   exact ⟨_,_,rfl,hqn,r1.num,below_then HB6.out HB6.out.size (below_then (below_then hs.b hs.b.size hb9) (below_then hs.b hs.b.size hb9).size r3)⟩
  ·obtain ⟨j,rfl⟩ : ∃ j,t=j+1:=⟨t - 1,by omega⟩
   rw [show ((j+1 : Nat) : Int) - 1=(j : Int) by omega]
   have hll:=hd.1
   have hql:=hd.2.2.1
   have hLu:=HLu.out
   obtain ⟨p1,hp1⟩ : ∃ p1,p1=j+vl.length:=⟨_,rfl⟩
   obtain ⟨k1,hk1⟩ : ∃ k1,k1+1=vl.length:=⟨vl.length - 1,by omega⟩
   obtain ⟨p2,hp2⟩ : ∃ p2,p2+1=p1:=⟨p1 - 1,by omega⟩
   obtain ⟨p3,hp3⟩ : ∃ p3,p3+1=p2:=⟨p2 - 1,by omega⟩
   obtain ⟨k2,hk2⟩ : ∃ k2,k2+1=k1:=⟨k1 - 1,by omega⟩
   have cu1:=hs.u.cell p1 (by omega)
   have cu2:=hs.u.cell p2 (by omega)
   have cv1:=hs.v.cell k1 (by omega)
   have lp1 : p1<l0.length:=by omega
   have lp2 : p2<l0.length:=by omega
   have lk1 : k1<vl.length:=by omega
   have s1 : (j : Int) + (vl.length : Int)=(p1 : Int):=by omega
   have w1' : IntKind.i64.wrap (p1 : Int)=(p1 : Int):=IntWalk.i64_in _ (by omega)
   have s2 : (p1 : Int) - 1=(p2 : Int):=by omega
   have w2' : IntKind.i64.wrap (p2 : Int)=(p2 : Int):=IntWalk.i64_in _ (by omega)
   have s4 : (vl.length : Int) - 1=(k1 : Int):=by omega
   have w4' : IntKind.i64.wrap (k1 : Int)=(k1 : Int):=IntWalk.i64_in _ (by omega)
   have bu1:=word_lt hd.2.1 p1
   have bu2:=word_lt hd.2.1 p2
   have bv1:=word_lt (okw_wds (m * f)) k1
   rw [← HVL.out] at bv1
   obtain ⟨x1,hx1⟩ : ∃ x1,x1=wd l p1 * wB:=⟨_,rfl⟩
   have s6 : (wd l p1 : Int) * 1000000000=(x1 : Int):=by rw [hx1,wB_eq]; omega
   have bx1 : (x1 : Int)≤999999999000000000:=by omega
   have w6' : IntKind.u64.wrap (x1 : Int)=(x1 : Int):=IntWalk.u64_in _ (by omega)
   obtain ⟨T,hT⟩ : ∃ T,T=x1+wd l p2:=⟨_,rfl⟩
   have s7 : (x1 : Int) + (wd l p2 : Int)=(T : Int):=by omega
   have bT : (T : Int)≤999999999999999999:=by omega
   have w7' : IntKind.u64.wrap (T : Int)=(T : Int):=IntWalk.u64_in _ (by omega)
   have cu3:=hs.u.cell p3 (by omega)
   have cv2:=hs.v.cell k2 (by omega)
   have lp3 : p3<l0.length:=by omega
   have lk2 : k2<vl.length:=by omega
   have s3 : (p1 : Int) - 2=(p3 : Int):=by omega
   have w3' : IntKind.i64.wrap (p3 : Int)=(p3 : Int):=IntWalk.i64_in _ (by omega)
   have s5 : (vl.length : Int) - 2=(k2 : Int):=by omega
   have w5' : IntKind.i64.wrap (k2 : Int)=(k2 : Int):=IntWalk.i64_in _ (by omega)
   have hokv : Okw vl:=by rw [HVL.out]; exact okw_wds _
   have hvalv : val vl=m * f:=by rw [HVL.out,val_wds]
   have hkn:=kn_of hd hokv hvalv rfl (by omega) (by rw [HVL.out,n1]; exact n2) hLu (by omega)
   rw [show j+vl.length - 1=p2 by omega,show j+vl.length - 2=p3 by omega,← hp1,show vl.length - 1=k1 by omega,show vl.length - 2=k2 by omega,← hx1,← hT] at hkn
   obtain ⟨q,hq⟩ : ∃ q,q=val (l.drop j) / (m * f):=⟨_,rfl⟩
   rw [← hq] at hkn
   obtain ⟨st1,st2,st3,st4⟩:=hkn.start
   have hv0 : ¬ wd vl k1=0:=by have:=hkn.half; have:=wB_eq; omega
   have hv1 : (1 : Int)≤wd vl k1:=by omega
   have bu3:=word_lt hd.2.1 p3
   have bv2:=word_lt hokv k2
   obtain ⟨g0,hg0⟩ : ∃ g0,g0=T / wd vl k1:=⟨_,rfl⟩
   obtain ⟨r0,hr0⟩ : ∃ r0,r0=T % wd vl k1:=⟨_,rfl⟩
   rw [← hg0] at st1 st2 st3
   rw [← hr0] at st3 st4
   have bg0 : (g0 : Int)≤1000000001:=by rw [wB_eq] at st2; omega
   have s8 : (T : Int) / (wd vl k1 : Int)=(g0 : Int):=by rw [hg0,Int.natCast_ediv]
   have s8' : (T : Int).tdiv (wd vl k1 : Int)=(g0 : Int):=by rw [Int.tdiv_eq_ediv_of_nonneg (Int.natCast_nonneg _)]; exact s8
   have w8' : IntKind.u64.wrap (g0 : Int)=(g0 : Int):=IntWalk.u64_in _ (by omega)
   have s9 : (T : Int) % (wd vl k1 : Int)=(r0 : Int):=by rw [hr0,Int.natCast_emod]
   have s9' : (T : Int).tmod (wd vl k1 : Int)=(r0 : Int):=by rw [Int.tmod_eq_emod_of_nonneg (Int.natCast_nonneg _)]; exact s9
   have HQ:=Lib.hid hq
   have HKN:=Lib.hid hkn
   have S1:=Lib.hid st1
   have S3:=Lib.hid st3
   have S2:=Lib.hid st2
   have S4:=Lib.hid st4
   have HVV2:=Lib.hid hvalv
   have HG0:=Lib.hid hg0
   have HR0:=Lib.hid hr0
   clear hq hkn st1 st2 st3 st4 hvalv hg0 hr0
   have HX:=Lib.hid hx1
   have HT:=Lib.hid hT
   have HP1:=Lib.hid hp1
   have HP2:=Lib.hid hp2
   have HP3:=Lib.hid hp3
   have HK1:=Lib.hid hk1
   have HK2:=Lib.hid hk2
   have HLL2:=Lib.hid hll
   have HQL:=Lib.hid hql
   clear hLu hx1 hT hp1 hp2 hp3 hk1 hk2 hll hql
   go_wp2
   go_quiet (fail)
   go_wp2
   go_quiet (fail)
   go_upto_block 3 with (fail)
   go_cut [17] (fun s17 wx=>∃ g : Nat,s17=.int .u64 g∧(g=q∨g=q+1)∧g<wB∧Dst w4 wx gu gv gq cu cv Lq l vl qs)
   case first =>
    go_wp2
    go_loopw [17,18] (fun gg rr wx=>∃ g r : Nat,gg=.int .u64 g∧rr=.int .u64 r∧g * wd vl k1+r=T∧q≤g∧g≤wB+1∧r<wB∧Dst w4 wx gu gv gq cu cv Lq l vl qs) (fun gg _ _=>(intOf gg).toNat)
    case atStart=>exact ⟨g0,r0,rfl,rfl,S3.out,S1.out,S2.out,S4.out,(hs.drewN _).drewN _⟩
    case round =>
     clear cu1 cu2 cu3 cv1 cv2 s8 s8' s9 s9' w8' bg0 hs
     obtain ⟨g,r,rfl,rfl,he,hqg,hgB,hrB,hs⟩:=hrel
     have cu3:=hs.u.cell p3 (by have:=HLL2.out; omega)
     have cv1:=hs.v.cell k1 lk1
     have cv2:=hs.v.cell k2 lk2
     have br : (r : Int)≤999999999:=by rw [wB_eq] at hrB; omega
     obtain ⟨r2,hr2⟩ : ∃ r2,r2=r+wd vl k1:=⟨_,rfl⟩
     have s14 : (r : Int) + (wd vl k1 : Int)=(r2 : Int):=by omega
     have br2 : (r2 : Int)≤1999999998:=by omega
     have HE:=Lib.hid he
     have HQG:=Lib.hid hqg
     have HGB:=Lib.hid hgB
     have HRB:=Lib.hid hrB
     have HR2:=Lib.hid hr2
     clear he hqg hgB hrB hr2
     by_cases hA : (1000000000 : Int)≤(g : Int)
     ·have hA0 : True:=trivial
      have hov:=HKN.out.over HE.out (.inl (by rw [wB_eq]; omega))
      obtain ⟨g1,hg1⟩ : ∃ g1,g=g1+1:=⟨g - 1,by omega⟩
      have he1 : g1 * wd vl k1+r2=T:=by have:=HE.out; rw [HR2.out]; rw [hg1,Nat.add_mul,Nat.one_mul] at this; omega
      have HOV:=Lib.hid hov
      have HE1:=Lib.hid he1
      have HG1:=Lib.hid hg1
      have sG : (g : Int) - 1=(g1 : Int):=by omega
      have bG : (g1 : Int)≤1000000000:=by have:=HGB.out; rw [wB_eq] at this; omega
      have wG : IntKind.u64.wrap (g1 : Int)=(g1 : Int):=IntWalk.u64_in _ (by omega)
      clear hov he1 hg1
      by_cases hD : (1000000000 : Int)≤(r2 : Int)
      ·have hD' : decide ((1000000000 : Int)≤(r2 : Int))=true:=decide_eq_true hD
       have hfin:=HKN.out.out HE1.out (by have:=HGB.out; have:=HG1.out; omega) (by rw [wB_eq]; omega)
       have HFIN:=Lib.hid hfin
       clear hfin hD
       go_wp2
       go_quiet (fail)
       clear hA
       go_wp2
       go_meet
       case rel=>exact ⟨g1,rfl,by have:=HFIN.out.1; have:=HOV.out; omega,HFIN.out.2,hs.drewN _⟩
      ·have hD' : decide ((1000000000 : Int)≤(r2 : Int))=false:=decide_eq_false hD
       have HD:=Lib.hid hD
       clear hD
       go_wp2
       go_quiet (fail)
       clear hA
       go_wp2
       go_roundw
       case rel=>exact ⟨g1,r2,rfl,rfl,HE1.out,by have:=HOV.out; omega,by have:=HGB.out; omega,by have:=HD.out; rw [wB_eq]; omega,hs.drewN _⟩
       case measure=>have:=HG1.out; simp [intOf]; omega
     ·have hA' : decide ((1000000000 : Int)≤(g : Int))=false:=decide_eq_false hA
      have hg9 : (g : Int)≤999999999:=by omega
      clear hA
      obtain ⟨gp,hgp⟩ : ∃ gp,gp=g * wd vl k2:=⟨_,rfl⟩
      have s10 : (g : Int) * (wd vl k2 : Int)=(gp : Int):=by rw [hgp,Int.natCast_mul]
      have b10 : (gp : Int)≤999999998000000001:=by
       have : g * wd vl k2≤999999999 * 999999999:=Nat.mul_le_mul (by omega) (by omega)
       omega
      have w10 : IntKind.u64.wrap (gp : Int)=(gp : Int):=IntWalk.u64_in _ (by omega)
      obtain ⟨ra,hra⟩ : ∃ ra,ra=r * wB:=⟨_,rfl⟩
      have s11 : (r : Int) * 1000000000=(ra : Int):=by rw [hra,wB_eq]; omega
      have b11 : (ra : Int)≤999999999000000000:=by omega
      have w11 : IntKind.u64.wrap (ra : Int)=(ra : Int):=IntWalk.u64_in _ (by omega)
      obtain ⟨rb,hrb⟩ : ∃ rb,rb=ra+wd l p3:=⟨_,rfl⟩
      have s12 : (ra : Int) + (wd l p3 : Int)=(rb : Int):=by omega
      have b12 : (rb : Int)≤999999999999999999:=by omega
      have w12 : IntKind.u64.wrap (rb : Int)=(rb : Int):=IntWalk.u64_in _ (by omega)
      have hrbe : rb=r * wB+wd l p3:=by rw [hrb,hra]
      have HGP:=Lib.hid hgp
      have HRB2:=Lib.hid hrbe
      clear hgp hra hrb hrbe
      by_cases hC : (rb : Int)<(gp : Int)
      ·have hC0 : True:=trivial
       have hov:=HKN.out.over HE.out (.inr (by rw [← HRB2.out,← HGP.out]; omega))
       obtain ⟨g1,hg1⟩ : ∃ g1,g=g1+1:=⟨g - 1,by omega⟩
       have he1 : g1 * wd vl k1+r2=T:=by have:=HE.out; rw [HR2.out]; rw [hg1,Nat.add_mul,Nat.one_mul] at this; omega
       have HOV:=Lib.hid hov
       have HE1:=Lib.hid he1
       have HG1:=Lib.hid hg1
       have sG : (g : Int) - 1=(g1 : Int):=by omega
       have bG : (g1 : Int)≤1000000000:=by have:=HGB.out; rw [wB_eq] at this; omega
       have wG : IntKind.u64.wrap (g1 : Int)=(g1 : Int):=IntWalk.u64_in _ (by omega)
       clear hov he1 hg1
       by_cases hD : (1000000000 : Int)≤(r2 : Int)
       ·have hD' : decide ((1000000000 : Int)≤(r2 : Int))=true:=decide_eq_true hD
        have hfin:=HKN.out.out HE1.out (by have:=HGB.out; have:=HG1.out; omega) (by rw [wB_eq]; omega)
        have HFIN:=Lib.hid hfin
        clear hfin hD
        go_wp2
        go_quiet (fail)
        clear hC hA'
        go_wp2
        go_meet
        case rel=>exact ⟨g1,rfl,by have:=HFIN.out.1; have:=HOV.out; omega,HFIN.out.2,hs.drewN _⟩
       ·have hD' : decide ((1000000000 : Int)≤(r2 : Int))=false:=decide_eq_false hD
        have HD:=Lib.hid hD
        clear hD
        go_wp2
        go_quiet (fail)
        clear hC hA'
        go_wp2
        go_roundw
        case rel=>exact ⟨g1,r2,rfl,rfl,HE1.out,by have:=HOV.out; omega,by have:=HGB.out; omega,by have:=HD.out; rw [wB_eq]; omega,hs.drewN _⟩
        case measure=>have:=HG1.out; simp [intOf]; omega
      ·have hC' : decide (rb<gp)=false:=decide_eq_false (by omega)
       have hfin:=HKN.out.done HE.out (by rw [wB_eq]; omega) (by rw [← HRB2.out,← HGP.out]; omega)
       have HFIN:=Lib.hid hfin
       have HG9:=Lib.hid hg9
       clear hfin hC
       go_wp2
       go_quiet (fail)
       clear hA' hg9 s10 s11 s12 b10 b11 b12 w10 w11 w12 s14 br2 br
       go_wp2
       go_meet
       case rel=>exact ⟨g,rfl,by have:=HFIN.out; have:=HQG.out; omega,by have:=HG9.out; rw [wB_eq]; omega,hs.drewN _⟩
   case rest =>
    clear cu1 cu2 cu3 cv1 cv2 s8 s8' s9 s9' w8' bg0 hs s6 bx1 w6' s7 bT w7' bu1 bu2 bv1 bu3 bv2 hv0 hv1
    obtain ⟨g,rfl,hg,hgB,hs⟩:=hcut
    have bg : (g : Int)≤999999999:=by rw [wB_eq] at hgB; omega
    have HG:=Lib.hid hg
    clear hg hgB
    go_wp2
    go_loopw [19,20,181] (fun cc bb ii wx=>∃ (i c bo : Nat) (l1 : List Nat),i≤vl.length∧cc=.int .i64 c∧bb=.int .i64 bo∧ii=.int .i64 i∧Msub l vl j g i l1 c bo∧Dst w4 wx gu gv gq cu cv Lq l1 vl qs) (fun _ _ ii _=>vl.length - (intOf ii).toNat)
    case atStart=>exact ⟨0,0,0,l,Nat.zero_le _,rfl,rfl,rfl,msub_start vl j g hd.2.1,hs⟩
    case round =>
     clear hs
     obtain ⟨i,c,bo,l1,hi,rfl,rfl,rfl,hms,hs⟩:=hrel
     have hl1 : l1.length=l0.length:=by rw [hms.1]; exact HLL2.out
     have bc : (c : Int)≤999999999:=by have:=hms.2.2.1; rw [wB_eq] at this; omega
     have bb : (bo : Int)≤1:=by have:=hms.2.2.2.1; omega
     have HL1:=Lib.hid hl1
     by_cases hik : i<vl.length
     ·obtain ⟨p,hp⟩ : ∃ p,p=i+j:=⟨_,rfl⟩
      have lp : p<l0.length:=by have:=HLu.out; omega
      have cu4:=hs.u.cell p (by omega)
      have fu4:=hs.u.free p
      have cv4:=hs.v.cell i hik
      have sp : (i : Int) + (j : Int)=(p : Int):=by omega
      have bw : (wd vl i : Int)≤999999999:=word_lt hokv i
      have bl : (wd l1 p : Int)≤999999999:=word_lt hms.2.1 p
      obtain ⟨gw,hgw⟩ : ∃ gw,gw=g * wd vl i:=⟨_,rfl⟩
      have sgw : (g : Int) * (wd vl i : Int)=(gw : Int):=by rw [hgw,Int.natCast_mul]
      have bgw : (gw : Int)≤999999998000000001:=by
       have : g * wd vl i≤999999999 * 999999999:=Nat.mul_le_mul (by omega) (by omega)
       omega
      obtain ⟨pp,hpp⟩ : ∃ pp,pp=gw+c:=⟨_,rfl⟩
      have spp : (gw : Int) + (c : Int)=(pp : Int):=by omega
      have bpp : (pp : Int)≤999999999999999999:=by omega
      obtain ⟨c',hc'⟩ : ∃ c',c'=pp / 1000000000:=⟨_,rfl⟩
      have sc' : (pp : Int) / 1000000000=(c' : Int):=by omega
      obtain ⟨pm,hpm⟩ : ∃ pm,pm=pp % 1000000000:=⟨_,rfl⟩
      have spm : (pp : Int) % 1000000000=(pm : Int):=by omega
      have bpm : (pm : Int)≤999999999:=by omega
      have hpp' : pp=g * wd vl i+c:=by rw [hpp,hgw]
      by_cases hdn : (wd l1 p : Int) - (pm : Int) - (bo : Int)<0
      ·obtain ⟨d,hde⟩ : ∃ d : Int,d=(wd l1 p : Int) - (pm : Int) - (bo : Int):=⟨_,rfl⟩
       obtain ⟨d',hd'⟩ : ∃ d' : Nat,(d' : Int)=d+1000000000:=⟨(d+1000000000).toNat,by omega⟩
       have hnx:=msub_nat hms hokv (by omega) hik (by have:=HLL2.out; have:=HLu.out; omega) hpp' hc' hpm (d':=d') (b':=1) (by rw [← hp]; omega) (by omega) (by omega)
       rw [← hp] at hnx
       have hd0 : d<0:=by omega
       have bd1 : -1000000000≤d:=by omega
       have sd : (wd l1 p : Int) - (pm : Int) - (bo : Int)=d:=hde.symm
       have sd' : d+1000000000=(d' : Int):=hd'.symm
       have bd' : (d' : Int)≤999999999:=by omega
       have HN:=Lib.hid hnx
       clear hnx hde hd' hdn hpp' hpp hc' hpm hgw hp hl1 hms
       go_wp2
       go_roundw
       case rel=>exact ⟨i+1,c',1,_,by omega,rfl,rfl,by go_num,HN.out,hs.set_u p d'⟩
       case measure=>simp [intOf]; omega
      ·obtain ⟨d',hd'⟩ : ∃ d' : Nat,(d' : Int)=(wd l1 p : Int) - (pm : Int) - (bo : Int):=⟨((wd l1 p : Int) - (pm : Int) - (bo : Int)).toNat,by omega⟩
       have hnx:=msub_nat hms hokv (by omega) hik (by have:=HLL2.out; have:=HLu.out; omega) hpp' hc' hpm (d':=d') (b':=0) (by rw [← hp]; omega) (by omega) (by omega)
       rw [← hp] at hnx
       have sd : (wd l1 p : Int) - (pm : Int) - (bo : Int)=(d' : Int):=hd'.symm
       have bd' : (d' : Int)≤999999999:=by omega
       have HN:=Lib.hid hnx
       clear hnx hd' hdn hpp' hpp hc' hpm hgw hp hl1 hms
       go_wp2
       go_roundw
       case rel=>exact ⟨i+1,c',0,_,by omega,rfl,rfl,by go_num,HN.out,hs.set_u p d'⟩
       case measure=>simp [intOf]; omega
     ·obtain rfl : i=vl.length:=by omega
      have lp1' : p1<l1.length:=by omega
      have cu5:=hs.u.cell p1 lp1'
      have fu5:=hs.u.free p1
      have fq5:=hs.q.free j
      have cq5:=hs.q.cell j (by have:=HQL.out; omega)
      have hVk : m * f≤wB ^ vl.length:=by
       have:=val_lt hokv
       rw [HVV2.out] at this
       omega
      have lj : j<Lq:=by omega
      have hqB:=HKN.out.q_lt
      have bl1 : (wd l1 p1 : Int)≤999999999:=word_lt hms.2.1 p1
      have HMS:=Lib.hid hms
      clear hms hi
      rcases HG.out with hgq | hgq
      ·have hex:=sub_exact hd HVV2.out rfl hVk HLu.out lj HMS.out (by rw [hgq]; exact HQ.out)
       rw [← HP1.out] at hex
       have sl : (wd l1 p1 : Int) - (c : Int) - (bo : Int)=0:=hex.1
       have hnx:=dv_next hd HLu.out lj hVk HQ.out hqB (l2:=l1) (by rw [HMS.out.1]; exact HLL2.out) HMS.out.2.1 (fun t ht=>HMS.out.2.2.2.2.2 t (by omega)) (by rw [← hgq]; exact hex.2)
       rw [← HP1.out,← hgq] at hnx
       have HN:=Lib.hid hnx
       have HGQ:=Lib.hid hgq
       clear hnx hex hgq
       go_wp2
       go_roundw
       case rel=>exact ⟨j,_,_,by omega,rfl,HN.out,(hs.set_u p1 0).set_q j g⟩
       case measure=>simp [intOf]
      ·have hov:=sub_over hd HVV2.out rfl hVk HLu.out lj HMS.out (by rw [hgq,HQ.out])
       rw [← HP1.out] at hov
       have sl : (wd l1 p1 : Int) - (c : Int) - (bo : Int) = -1:=hov.1
       have HOV:=Lib.hid hov.2
       have sg : (g : Int) - 1=(q : Int):=by omega
       have bq : (q : Int)≤999999999:=by omega
       have wq : IntKind.u64.wrap (q : Int)=(q : Int):=IntWalk.u64_in _ (by omega)
       have HGQ:=Lib.hid hgq
       clear hov hgq
       go_wp2
       go_loopw [25,236] (fun cc ii wx=>∃ (i c2 : Nat) (l2 : List Nat),i≤vl.length∧cc=.int .u64 c2∧ii=.int .i64 i∧Madd l1 vl j i l2 c2∧Dst w4 wx gu gv gq cu cv Lq l2 vl qs) (fun _ ii _=>vl.length - (intOf ii).toNat)
       case atStart=>exact ⟨0,0,l1,Nat.zero_le _,rfl,rfl,madd_start vl j HMS.out.2.1,hs⟩
       case round =>
        clear hs cu5 fu5 fq5 cq5
        obtain ⟨i,c2,l2,hi,rfl,rfl,hma,hs⟩:=hrel
        have hl2 : l2.length=l0.length:=by rw [hma.1]; exact HL1.out
        by_cases hik2 : i<vl.length
        ·obtain ⟨p,hp⟩ : ∃ p,p=i+j:=⟨_,rfl⟩
         have lp : p<l0.length:=by have:=HLu.out; omega
         have cu4:=hs.u.cell p (by omega)
         have fu4:=hs.u.free p
         have cv4:=hs.v.cell i hik2
         have sp : (i : Int) + (j : Int)=(p : Int):=by omega
         have wp : IntKind.i64.wrap (p : Int)=(p : Int):=IntWalk.i64_in _ (by omega)
         have bw : (wd vl i : Int)≤999999999:=word_lt hokv i
         have bl : (wd l2 p : Int)≤999999999:=word_lt hma.2.1 p
         have bc2 : (c2 : Int)≤1:=by have:=hma.2.2.1; omega
         obtain ⟨sa,hsa⟩ : ∃ sa,sa=wd l2 p+wd vl i:=⟨_,rfl⟩
         have ssa : (wd l2 p : Int) + (wd vl i : Int)=(sa : Int):=by omega
         have bsa : (sa : Int)≤1999999998:=by omega
         have wsa : IntKind.u64.wrap (sa : Int)=(sa : Int):=IntWalk.u64_in _ (by omega)
         obtain ⟨sb,hsb⟩ : ∃ sb,sb=c2+sa:=⟨_,rfl⟩
         have ssb : (c2 : Int) + (sa : Int)=(sb : Int):=by omega
         have bsb : (sb : Int)≤1999999999:=by omega
         have wsb : IntKind.u64.wrap (sb : Int)=(sb : Int):=IntWalk.u64_in _ (by omega)
         obtain ⟨sc,hsc⟩ : ∃ sc,sc=sb / wB:=⟨_,rfl⟩
         have ssc : (sb : Int) / 1000000000=(sc : Int):=by rw [wB_eq] at hsc; omega
         obtain ⟨sm',hsm⟩ : ∃ sm',sm'=sb % wB:=⟨_,rfl⟩
         have ssm : (sb : Int) % 1000000000=(sm' : Int):=by rw [wB_eq] at hsm; omega
         have bsm : (sm' : Int)≤999999999:=by omega
         have bsc : (sc : Int)≤1:=by omega
         have hnx:=(madd_next hma hokv hik2 (by rw [HL1.out]; have:=HLu.out; omega) (s:=sb) (by rw [hsb,hsa,hp])).1
         rw [← hp,← hsc,← hsm] at hnx
         have HN:=Lib.hid hnx
         clear hnx hsa hsb hsc hsm hp hl2 hma
         go_wp2
         go_quiet (fail)
         go_wp2
         go_roundw
         case rel=>exact ⟨i+1,sc,_,by omega,rfl,by go_num,HN.out,(hs.drewN _).set_u p sm'⟩
         case measure=>simp [intOf]; omega
        ·obtain rfl : i=vl.length:=by omega
         obtain ⟨rfl,o2,o3,o4⟩:=HOV.out l2 c2 hma
         have cu6:=hs.u.cell p1 (by omega)
         have fu6:=hs.u.free p1
         have fq6:=hs.q.free j
         have cq6:=hs.q.cell j (by have:=HQL.out; omega)
         have hnx:=dv_next hd HLu.out lj hVk HQ.out hqB (l2:=l2) hl2 hma.2.1 (fun t ht=>o4 t (by have:=HP1.out; omega)) (by have:=o2; rw [HGQ.out,Nat.add_sub_cancel] at this; exact this)
         rw [← HP1.out] at hnx
         have HN:=Lib.hid hnx
         clear hnx o2 o3 o4 hma hl2 hi
         go_wp2
         go_roundw
         case rel=>exact ⟨j,_,_,by omega,rfl,HN.out,(hs.set_u p1 0).set_q j q⟩
         case measure=>simp [intOf]
theorem divide_walk (v u : Value) (n m : Nat) (hm : 0<m) (w : World) (h : Num w v n) (g : Num w u m) (hf : (wds n).length≤900000000) :
  Calls Tryz.prog 226 #[v,u] w (Ret2 fun v1 v2 w'=>Num w' v1 (n / m)∧Num w' v2 (n % m)∧Below w.heap.size w w'):=by
 rcases Nat.lt_or_ge n m with hlt | hlt
 ·exact divide_less v u n m hlt w h g
 ·rcases Nat.lt_or_ge n (wB * wB) with hs | hs
  ·exact divide_small v u n m hlt hm hs w h g
  ·rcases Nat.lt_or_ge m wB with h1 | h1
   ·exact divide_word v u n m hlt hm h1 hs w h g (by omega)
   ·refine divide_long v u n m hlt ?_ hs w h g hf
    rcases Nat.lt_or_ge (wds m).length 2 with h2 | h2
    ·exfalso
     have h3:=lt_wds_pow m
     have h4 : wB ^ (wds m).length≤wB ^ 1:=Nat.pow_le_pow_right wB_pos (by omega)
     rw [Nat.pow_one] at h4
     omega
    ·exact h2
end Go.Proofs.YtopfedbhkfdjkaaGreatDoor


/- natural: gcd: for every two numbers. -/
namespace Go.Proofs.YtopfedbhkfdjkaaGreatDoor
open Go Go.RowKit
set_option maxRecDepth 100000 in
set_option maxHeartbeats 2000000 in
theorem gcd_walk (v u : Value) (n m : Nat) (w : World) (h : Num w v n) (g : Num w u m) (hf : (wds n).length≤900000000) (gf : (wds m).length≤900000000) :
  Calls Tryz.prog 206 #[v,u] w (Ret fun v1 w'=>Num w' v1 (Nat.gcd n m)∧Below w.heap.size w w'):=by
 go_enter Tryz.func206,Tryz.ntmps206
 go_wp2
 go_loopg [0,1] m (fun k s0 s1 wr=>∃ a b : Nat,k=b∧Hid (Nat.gcd a b=Nat.gcd n m)∧Num wr s0 a∧Num wr s1 b∧(wds a).length≤900000000∧(wds b).length≤900000000∧Below w.heap.size w wr)
 case atStart=>exact ⟨n,m,rfl,rfl,h,g,hf,gf,Below.refl _ _⟩
 case round =>
  clear h g hf gf
  obtain ⟨a,b,rfl,hg,ha,hb,la,lb,hbel⟩:=hrel
  by_cases h0 : gk=0
  ·subst h0
   obtain ⟨B,cap',rfl,_,_,_⟩:=hb.open
   rw [wds_zero] at *
   go_wp2
   go_ret
   have:=hg.out
   rw [Nat.gcd_zero_right] at this
   subst this
   exact ⟨_,rfl,ha,hbel⟩
  ·have hb0 : 0<(wds gk).length:=wds_length_pos.2 (by omega)
   obtain ⟨B,cap',hBe,_,_,_⟩:=hb.open
   subst hBe
   have HB0:=Lib.hid h0
   clear h0
   go_wp2_with fail
   refine (small_walk _ a wr ha).mono ?_
   rintro e w1 ⟨rfl,hb1⟩
   have hB1:=below_then hbel hbel.size hb1
   go_wp2_with fail
   refine (small_walk _ gk w1 (hb.below hb1)).mono ?_
   rintro e w2 ⟨rfl,hb2⟩
   have hB2:=below_then hB1 hB1.size hb2
   have ha2:=(ha.below hb1).below hb2
   have hb2':=(hb.below hb1).below hb2
   clear hb1 hb2 hB1 ha hb hbel
   by_cases hs : a<wB * wB∧gk<wB * wB
   ·have ea : smallOf a=a:=if_pos hs.1
    have eb : smallOf gk=gk:=if_pos hs.2
    rw [ea,eb,decide_eq_true hs.1,decide_eq_true hs.2]
    clear ea eb
    have HS:=Lib.hid hs
    clear hs
    go_wp2
    go_loopw [5,7] (fun xx yy wx=>∃ x y : Nat,xx=.int .u64 x∧yy=.int .u64 y∧Hid (Nat.gcd x y=Nat.gcd n m)∧Hid (x<wB * wB∧y<wB * wB)∧Below w.heap.size w wx) (fun _ yy _=>(intOf yy).toNat)
    case atStart=>exact ⟨a,gk,rfl,rfl,hg,HS,hB2⟩
    case round =>
     clear hg HS HB0 hb0 la lb ha2 hb2' hB2
     obtain ⟨x,y,rfl,rfl,hg,hs,hbel⟩:=hrel
     have bx : (x : Int)≤999999999999999999:=by have:=hs.out.1; rw [wB_eq] at this; omega
     have by' : (y : Int)≤999999999999999999:=by have:=hs.out.2; rw [wB_eq] at this; omega
     by_cases hy : y=0
     ·subst hy
      go_wp2_with fail
      refine (of_walk x hs.out.1 _).mono ?_
      rintro e w3 ⟨v3,rfl,g1,g2⟩
      go_wp2
      go_ret
      have:=hg.out
      rw [Nat.gcd_zero_right] at this
      subst this
      exact ⟨_,rfl,g1.num,below_then hbel hbel.size g2⟩
     ·have hy1 : (1 : Int)≤y:=by omega
      have hyy : ¬ (y : Int)=0:=by omega
      obtain ⟨z,hz⟩ : ∃ z,z=x % y:=⟨_,rfl⟩
      have sz : (x : Int).tmod (y : Int)=(z : Int):=by rw [Int.tmod_eq_emod_of_nonneg (Int.natCast_nonneg _),hz,Int.natCast_emod]
      have sz' : (x : Int) % (y : Int)=(z : Int):=by rw [hz,Int.natCast_emod]
      have hzy : z<y:=by rw [hz]; exact Nat.mod_lt _ (by omega)
      have hgz : Hid (Nat.gcd y z=Nat.gcd n m):=by
       show Nat.gcd y z=Nat.gcd n m
       rw [hz,Nat.gcd_comm y,← Nat.gcd_rec,Nat.gcd_comm]; exact hg.out
      have HZ:=Lib.hid hz
      clear hz
      go_wp2
      go_quiet (fail)
      go_wp2
      go_roundw
      case rel=>exact ⟨y,z,rfl,rfl,hgz,⟨hs.out.2,Nat.lt_trans hzy hs.out.2⟩,below_drewN hbel _⟩
      case measure=>simp [intOf]; omega
   ·generalize smallOf a=sa
    generalize smallOf gk=sb
    have hdv:=divide_walk u0 (.slice B (wds gk).length cap') a gk (by have:=HB0.out; omega) w2 ha2 hb2' la
    have hgz : Hid (Nat.gcd gk (a % gk)=Nat.gcd n m):=by
     show Nat.gcd gk (a % gk)=Nat.gcd n m
     rw [Nat.gcd_comm gk,← Nat.gcd_rec,Nat.gcd_comm]; exact hg.out
    have hlt : a % gk<gk:=Nat.mod_lt _ (by have:=HB0.out; omega)
    have hlen : (wds (a % gk)).length≤900000000:=Nat.le_trans (wds_mono_length (Nat.le_of_lt hlt)) lb
    have HLT:=Lib.hid hlt
    have HDV:=Lib.hid hdv
    clear hlt hdv
    by_cases h1 : a<wB * wB
    ·have h2 : ¬ gk<wB * wB:=fun h2=>hs ⟨h1,h2⟩
     rw [decide_eq_true h1,decide_eq_false h2]
     clear hs h1 h2
     go_wp2_with fail
     refine HDV.out.mono ?_
     rintro e w3 ⟨v1,v2,rfl,r1,r2,r3⟩
     go_wp2
     go_roundg (a % gk)
     case measure=>exact HLT.out
     case rel=>exact ⟨gk,a % gk,rfl,hgz,hb2'.below r3,r2,lb,hlen,below_then hB2 hB2.size r3⟩
    ·rw [decide_eq_false h1]
     generalize decide (gk<wB * wB)=db
     clear hs h1
     go_wp2_with fail
     refine HDV.out.mono ?_
     rintro e w3 ⟨v1,v2,rfl,r1,r2,r3⟩
     go_wp2
     go_roundg (a % gk)
     case measure=>exact HLT.out
     case rel=>exact ⟨gk,a % gk,rfl,hgz,hb2'.below r3,r2,lb,hlen,below_then hB2 hB2.size r3⟩
end Go.Proofs.YtopfedbhkfdjkaaGreatDoor
