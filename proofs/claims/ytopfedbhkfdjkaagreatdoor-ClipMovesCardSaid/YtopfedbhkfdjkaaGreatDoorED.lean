
/- Solids in plain Lean: closedness by counts; turned, joined, moved and mirrored solids; prisms are closed; a solid without one of its triangles is open. No program in sight. -/
import Derived.Test.YtopfedbhkfdjkaaGreatDoorEA
import Derived.Test.YtopfedbhkfdjkaaGreatDoorEC
import Derived.Test.YtopfedbhkfdjkaaGreatDoorE9
import Derived.Deep.Slices
import Derived.Deep.Fields
import Derived.OpenShut
import Derived.Carry
import Derived.Test.YtopfedbhkfdjkaaGreatDoorCards
import Derived.Test.YtopfedbhkfdjkaaGreatDoorTie
import Derived.ProofKit
import Derived.Deep.DeepHandedRow
import Derived.Lib.LaidTab
import Derived.Lib.SmallJoins
import Derived.Shelf.Vars
import Derived.SevenTiedAt
set_option linter.unusedVariables false
set_option linter.unusedSimpArgs false
namespace Go.Proofs.YtopfedbhkfdjkaaGreatDoor
open Go Go.RowKit
section
variable {α β : Type}
theorem edges_append (l m : List (Tr α)) : edges (l++m)=edges l++edges m:=by simp [edges]
variable [DecidableEq α] [DecidableEq β]
theorem cnt_append (es fs : List (α × α)) (x : α × α) : cnt (es++fs) x=cnt es x+cnt fs x:=by
 unfold cnt
 rw [List.count_append,List.count_append]
 omega
def dl (x : α × α) (a b : α) : Int:=cnt [(a,b)] x
theorem dl_eq (x : α × α) (a b : α) : dl x a b=(if x=(a,b) then 1 else 0) - (if x=(b,a) then 1 else 0):=by
 have:=cnt_snoc [] (a,b) x
 simp only [List.nil_append,cnt_nil,Int.zero_add] at this
 exact this
theorem dl_swap (x : α × α) (a b : α) : dl x b a = - dl x a b:=by
 rw [dl_eq,dl_eq]
 generalize (if x=(a,b) then (1 : Int) else 0)=p
 generalize (if x=(b,a) then (1 : Int) else 0)=q
 omega
theorem cnt_edges_cons (t : Tr α) (l : List (Tr α)) (x : α × α) : cnt (edges (t :: l)) x=dl x t.a t.b+dl x t.b t.c+dl x t.c t.a+cnt (edges l) x:=by
 have e : edges (t :: l)=[(t.a,t.b)]++([(t.b,t.c)]++([(t.c,t.a)]++edges l)):=rfl
 rw [e,cnt_append,cnt_append,cnt_append]
 unfold dl
 omega
theorem closed_iff (l : List (Tr α)) : openT l=false↔∀ x,cnt (edges l) x=0:=by
 unfold openT openE
 constructor
 ·intro h x
  rw [List.any_eq_false] at h
  by_cases h0 : cnt (edges l) x=0
  ·exact h0
  ·exfalso
   obtain ⟨p,q⟩:=x
   have hne : p≠q:=fun e=>h0 (by rw [e]; exact cnt_same _ _)
   by_cases h1 : (p,q) ∈ edges l
   ·refine h _ h1 ?_
    simp only [Bool.and_eq_true,decide_eq_true_eq]
    exact ⟨hne,h0⟩
   ·by_cases h2 : (q,p) ∈ edges l
    ·refine h _ h2 ?_
     simp only [Bool.and_eq_true,decide_eq_true_eq]
     refine ⟨fun e=>hne e.symm, ?_⟩
     have:=cnt_swap (edges l) (p,q)
     dsimp only at this
     omega
    ·apply h0
     unfold cnt
     rw [List.count_eq_zero.2 h1,List.count_eq_zero.2 h2]
     rfl
 ·intro h
  rw [List.any_eq_false]
  intro e _
  rw [h e]
  simp
/-! ### Prisms -/
/-! ### Points -/
end
/-! ### Moved and mirrored solids -/
def leT (L : List (Tr V3)) (k : Nat) : Prop:=∀ t ∈ L,t.a.le k∧t.b.le k∧t.c.le k
end Go.Proofs.YtopfedbhkfdjkaaGreatDoor


/- law of chapter 12: vec, awake (the walk). -/
namespace Go.Proofs.YtopfedbhkfdjkaaGreatDoor
open Go Go.RowKit
theorem Ts.tail {w : World} {b off n cap : Nat} {l : List TV} (h : Ts w (.slice (some ⟨b,off,none⟩) (n+1) cap) l) : Ts w (.slice (some ⟨b,off+9,none⟩) n (cap - 1)) l.tail:=by
 obtain ⟨A,cap',hv,hn,hc,hcell⟩:=h.open
 simp only [Value.slice.injEq] at hv
 obtain ⟨hA,hl,rfl⟩:=hv
 obtain ⟨b2,off2,hA2,hcl⟩:=hcell (by omega)
 rw [hA2] at hA
 simp only [Option.some.injEq,Addr.mk.injEq,and_true] at hA
 obtain ⟨rfl,rfl⟩:=hA
 have hlt : l.tail.length=n:=by rw [List.length_tail]; omega
 refine ⟨tcs_length _,some ⟨b,off+9,none⟩,cap - 1,by rw [hlt],by omega,by unfold maxLen; omega,fun h0=>⟨b,off+9,rfl,fun j u hu=>?_⟩⟩
 obtain ⟨_,A3,cap3,hv3,_,_,h3⟩:=h
 obtain ⟨b3,off3,hA3,hc3⟩:=h3 (by omega)
 simp only [Value.slice.injEq] at hv3
 rw [← hv3.1] at hA3
 simp only [Option.some.injEq,Addr.mk.injEq,and_true] at hA3
 obtain ⟨rfl,rfl⟩:=hA3
 have h4:=hc3 (j+9) u (by
  cases l with
  | nil=>simp at hl
  | cons t l =>
   have e : tcs (t :: l)=TV.cells t++tcs l:=rfl
   have e9 : (TV.cells t).length=9:=rfl
   rw [e,List.getElem?_append_right (by omega),e9,Nat.add_sub_cancel]
   exact hu)
 rw [show off+9+j=off + (j+9) by omega]
 exact h4
end Go.Proofs.YtopfedbhkfdjkaaGreatDoor


/- law of chapter 12: awake is true. -/
namespace Go.Proofs.YtopfedbhkfdjkaaGreatDoor
open Go Go.RowKit
theorem valid_txt (L : List (Tr V3)) : (L.map txt).all tvalid=true:=by
 rw [List.all_eq_true]
 intro t ht
 obtain ⟨u,_,rfl⟩:=List.mem_map.1 ht
 simp [tvalid,txt,Tr.map,isVec_txv]
theorem open_txt (L : List (Tr V3)) : openT (L.map txt)=openT L:=openT_map (f:=txv) txv_apart L
theorem chk_ok {L : List (Tr V3)} (h : L.length≤512) (ho : openT L=false) : chkC (L.map txt)=0 :=
 chkC_ok (by rw [List.length_map]; omega) (valid_txt L) (by rw [open_txt]; exact ho)
theorem rtx_one : rtx 1=⟨#[49]⟩:=by decide +kernel
theorem rtx_two : rtx 2=⟨#[50]⟩:=by decide +kernel
def lo0 : V3:=⟨0,0,0⟩
def hi0 : V3:=⟨2,1,1⟩
def box0 : List (Tr V3):=boxT lo0 hi0
theorem lo0_lt : lo0.lt3 hi0:=by unfold V3.lt3; decide +kernel
theorem box0_len : box0.length=12:=by decide +kernel
theorem box0_closed : openT box0=false:=boxT_closed lo0_lt.1 lo0_lt.2.1 lo0_lt.2.2
theorem box0_le : ∀ t ∈ box0,t.a.le 1∧t.b.le 1∧t.c.le 1:=by
 unfold V3.le
 decide +kernel
theorem VV_lo0 : VV lo0=.agg #[.string ⟨#[48]⟩,.string ⟨#[48]⟩,.string ⟨#[48]⟩]:=by
 rw [VV_eq]; simp only [lo0,rtx_zero]
theorem VV_hi0 : VV hi0=.agg #[.string ⟨#[50]⟩,.string ⟨#[49]⟩,.string ⟨#[49]⟩]:=by
 rw [VV_eq]; simp only [hi0,rtx_one,rtx_two]
theorem lo0_le : lo0.le 100000:=by unfold V3.le; decide +kernel
theorem hi0_le : hi0.le 100000:=by unfold V3.le; decide +kernel
end Go.Proofs.YtopfedbhkfdjkaaGreatDoor


/- law of chapter 12: few, the closures of MeshBoxes, slices.Contains. -/
namespace Go.Proofs.YtopfedbhkfdjkaaGreatDoor
open Go Go.RowKit
def isFew (s : SV) : Bool:=decide (s.x.size≤20) && decide (s.y.size≤20) && decide (s.z.size≤20)
set_option maxHeartbeats 1000000 in
theorem Few_walk (v : Value) (l : List SV) (w : World) (hv : Vs w v l) (hm : l.length≤1000000) :
  Calls Tryz.prog 31 #[v] w fun e w'=>e=.returned (.bool (l.all isFew))∧Below w.heap.size w w':=by
 obtain ⟨A,cap,rfl,hn,hc,hcell⟩:=hv.open
 have HCL:=Lib.hid hcell
 have HTE:=Lib.hid (show l.take l.length=l from List.take_length)
 obtain ⟨n,hn0⟩ : ∃ n,n=l.length:=⟨_,rfl⟩
 have HG:=Lib.hid (fun k (hk : k<n)=>(show ∃ s,l[k]?=some s from ⟨_,List.getElem?_eq_getElem (by rw [← hn0]; exact hk)⟩))
 rw [← hn0] at hn hm HCL HTE ⊢
 clear hn0 hv hcell
 go_enter Tryz.func31,Tryz.ntmps31
 go_wp2
 go_loopw [3] (fun ii wr=>∃ k : Nat,k≤n∧ii=.int .i64 k∧Hid ((l.take k).all isFew=true)∧wr=w) (fun ii _=>n - (intOf ii).toNat)
 case atStart=>exact ⟨0,Nat.zero_le _,rfl,Lib.hid rfl,rfl⟩
 case round =>
  obtain ⟨k,hk,rfl,hd,rfl⟩:=hrel
  by_cases hlt : k<n
  ·obtain ⟨s,hg⟩:=HG.out k hlt
   obtain ⟨b,off,rfl,hcl⟩:=HCL.out (by omega)
   obtain ⟨c0,c1,c2⟩:=hcl k _ hg
   have HT:=Lib.hid (fun (h : isFew s=true)=>take_all hg hd.out h)
   have HF : Hid (isFew s=false→l.all isFew=false):=Lib.hid (fun h=>List.all_eq_false.2 ⟨s,List.mem_of_getElem? hg,by rw [h]; decide⟩)
   have hk0 : (0 : Int)≤(k : Int):=by omega
   have hkn : (k : Int)<(n : Int):=by omega
   clear hg hcl hd
   by_cases h0 : s.x.size≤20
   ·have i0 : (s.x.size : Int)≤20:=by omega
    by_cases h1 : s.y.size≤20
    ·have i1 : (s.y.size : Int)≤20:=by omega
     by_cases h2 : s.z.size≤20
     ·have i2 : (s.z.size : Int)≤20:=by omega
      have E:=Lib.hid (HT.out (by simp [isFew,h0,h1,h2]))
      clear HT HF
      go_wp2
      go_roundw
      case rel=>exact ⟨k+1,by omega,by go_num,E,trivial⟩
      case measure=>simp [intOf]; omega
     ·have i2 : (20 : Int)<(s.z.size : Int):=by omega
      have E:=Lib.hid (HF.out (by simp [isFew,h2]))
      clear HT HF
      go_wp2
      go_ret
      exact ⟨by rw [E.out]; rfl,br _⟩
    ·have i1 : (20 : Int)<(s.y.size : Int):=by omega
     have E:=Lib.hid (HF.out (by simp [isFew,h1]))
     clear HT HF
     go_wp2
     go_ret
     exact ⟨by rw [E.out]; rfl,br _⟩
   ·have i0 : (20 : Int)<(s.x.size : Int):=by omega
    have E:=Lib.hid (HF.out (by simp [isFew,h0]))
    clear HT HF
    go_wp2
    go_ret
    exact ⟨by rw [E.out]; rfl,br _⟩
  ·obtain rfl : k=n:=by omega
   rw [HTE.out] at hd
   have E:=Lib.hid hd.out
   clear hd
   go_wp2
   go_ret
   exact ⟨by rw [E.out]; rfl,br _⟩
end Go.Proofs.YtopfedbhkfdjkaaGreatDoor


/- law of chapter 12: garboardref12: Few, Same. -/
namespace Go.Proofs.YtopfedbhkfdjkaaGreatDoor
open Go Go.RowKit
def fewTri (t : TV) : Bool:=[t.a,t.b,t.c].all isFew
def fewLen (n : Nat) : Bool:=decide (n≤40) || decide (n=513)
def fewT (l : List TV) : Bool:=l.all fewTri && fewLen l.length
theorem vs_tri {w : World} {b off j : Nat} {t : TV} (h : ∀ i u,(TV.cells t)[i]?=some u→w.cell? ⟨b,off + (j * 9+i),none⟩=some u) : Vs w (.slice (some ⟨b,off+j * 9,none⟩) 3 3) [t.a,t.b,t.c]:=by
 refine ⟨rfl,some ⟨b,off+j * 9,none⟩,3,rfl,Nat.le_refl _,by decide,fun _=>⟨b,off+j * 9,rfl,fun i u hu=>?_⟩⟩
 have : svs [t.a,t.b,t.c]=TV.cells t:=rfl
 rw [this] at hu
 have:=h i u hu
 rwa [← Nat.add_assoc] at this
set_option maxHeartbeats 1000000 in
theorem refFew_walk (v : Value) (l : List TV) (w : World) (hv : Ts w v l) :
  Calls Tryz.prog 45 #[v] w fun e w'=>e=.returned (.bool (fewT l))∧Below w.heap.size w w':=by
 obtain ⟨A,cap,rfl,hn,hc,hcell⟩:=hv.open
 have HCL:=Lib.hid hcell
 have HTE:=Lib.hid (show l.take l.length=l from List.take_length)
 obtain ⟨n,hn0⟩ : ∃ n,n=l.length:=⟨_,rfl⟩
 have HG:=Lib.hid (fun k (hk : k<n)=>(show ∃ s,l[k]?=some s from ⟨_,List.getElem?_eq_getElem (by rw [← hn0]; exact hk)⟩))
 have HR : Hid ((l.all fewTri=true→fewT l=fewLen n)∧(l.all fewTri=false→fewT l=false)):=Lib.hid ⟨fun h=>by unfold fewT; rw [h,hn0]; rfl,fun h=>by unfold fewT; rw [h]; rfl⟩
 rw [← hn0] at hn HCL HTE ⊢
 clear hn0 hv hcell
 go_enter Tryz.func45,Tryz.ntmps45
 go_wp2
 go_loopw [3] (fun ii wr=>∃ k : Nat,k≤n∧ii=.int .i64 k∧Hid ((l.take k).all fewTri=true)∧Below w.heap.size w wr) (fun ii _=>n - (intOf ii).toNat)
 case atStart=>exact ⟨0,Nat.zero_le _,rfl,Lib.hid rfl,Below.refl _ _⟩
 case round =>
  obtain ⟨k,hk,rfl,hd,hbw⟩:=hrel
  by_cases hlt : k<n
  ·obtain ⟨s,hg⟩:=HG.out k hlt
   obtain ⟨b,off,rfl,hcl⟩:=HCL.out (by omega)
   have hvt:=vs_tri (w:=wr) (fun i u hu=>cell_below hbw (hcl k _ hg i u hu))
   have HT:=Lib.hid (fun (h : fewTri s=true)=>take_all hg hd.out h)
   have HF : Hid (fewTri s=false→l.all fewTri=false):=Lib.hid (fun h=>List.all_eq_false.2 ⟨s,List.mem_of_getElem? hg,by rw [h]; decide⟩)
   have HK : Hid (Calls Tryz.prog 31 #[.slice (some ⟨b,off+k * 9,none⟩) 3 3] wr fun e w'=>e=.returned (.bool (fewTri s))∧Below wr.heap.size wr w'):=Lib.hid (Few_walk _ _ wr hvt (by simp))
   have hk0 : (0 : Int)≤(k : Int):=by omega
   have hkn : (k : Int)<(n : Int):=by omega
   clear hg hcl hd hvt
   generalize hq : fewTri s=q at *
   cases q with
   | true =>
    have E:=Lib.hid (HT.out rfl)
    clear HT HF hq
    go_wp2_with fail
    refine HK.out.mono ?_
    rintro e w1 ⟨rfl,g1⟩
    have b1 : Below w.heap.size w w1:=bn hbw g1
    clear g1
    go_wp2
    go_roundw
    case rel=>exact ⟨k+1,by omega,by go_num,E,b1⟩
    case measure=>simp [intOf]; omega
   | false =>
    have E:=Lib.hid (HR.out.2 (HF.out rfl))
    clear HT HF hq
    go_wp2_with fail
    refine HK.out.mono ?_
    rintro e w1 ⟨rfl,g1⟩
    have b1 : Below w.heap.size w w1:=bn hbw g1
    clear g1
    go_wp2
    go_ret
    exact ⟨by rw [E.out]; rfl,b1⟩
  ·obtain rfl : k=n:=by omega
   rw [HTE.out] at hd
   have E:=Lib.hid (HR.out.1 hd.out)
   clear hd HR
   unfold fewLen at E
   by_cases h0 : k≤40
   ·have i0 : (k : Int)≤40:=by omega
    rw [decide_eq_true h0] at E
    clear HG HTE HCL hk hlt h0
    go_wp2
    go_ret
    exact ⟨by rw [E.out]; rfl,hbw⟩
   ·have i0 : (40 : Int)<(k : Int):=by omega
    rw [decide_eq_false h0] at E
    by_cases h1 : k=513
    ·subst h1
     clear HG HTE HCL hk hlt h0
     go_wp2
     go_ret
     exact ⟨by rw [E.out]; rfl,hbw⟩
    ·have i1 : ((k : Int) == 513)=false:=by simp; omega
     have z0 : Hid (decide ((k : Int)≤40)=false):=Lib.hid (decide_eq_false (by omega))
     rw [decide_eq_false h1] at E
     clear HG HTE HCL hk hlt h0 h1
     go_wp2
     go_ret
     exact ⟨by rw [E.out]; show Ending.returned (Value.bool (decide ((k : Int)≤40)))=_; rw [z0.out]; rfl,hbw⟩
theorem tri_same (a b c d e f g h i : ByteArray) (w : World) : (binOp .neq 36 (.agg #[.string a,.string b,.string c,.string d,.string e,.string f,.string g,.string h,.string i]) (.agg #[.string a,.string b,.string c,.string d,.string e,.string f,.string g,.string h,.string i])).run Tryz.prog w=.ok (.bool false) w:=by
 go_simp
 rw [show (10000 : Nat)=9999+1 from rfl,Op.equalIn]
 simp only [Sem.run_bind,run_underlying Tryz.underlying36,Result.andThen_ok]
 simp only [Std.Legacy.Range.forIn_eq_forIn_range',Std.Legacy.Range.size,Nat.sub_zero,Nat.add_sub_cancel,Nat.div_one,List.range'_succ,List.range'_zero,List.forIn_cons,List.forIn_nil]
 go_simp
set_option maxHeartbeats 2000000 in
theorem refSame_walk (v1 v2 : Value) (l : List TV) (w : World) (hv1 : Ts w v1 l) (hv2 : Ts w v2 l) :
  Calls Tryz.prog 19 #[v1,v2] w fun e w'=>e=.returned (.bool true)∧Below w.heap.size w w':=by
 obtain ⟨A,cap,rfl,hn,hc,hcell⟩:=hv1.open
 obtain ⟨A2,cap2,rfl,hn2,hc2,hcell2⟩:=hv2.open
 have HCL:=Lib.hid hcell
 have HCL2:=Lib.hid hcell2
 obtain ⟨n,hn0⟩ : ∃ n,n=l.length:=⟨_,rfl⟩
 have HG:=Lib.hid (fun k (hk : k<n)=>(show ∃ s,l[k]?=some s from ⟨_,List.getElem?_eq_getElem (by rw [← hn0]; exact hk)⟩))
 rw [← hn0] at hn hn2 HCL HCL2 ⊢
 clear hn0 hv1 hv2 hcell hcell2
 have nq : ∀ (a b c d e f g h i : ByteArray) w,(binOp .neq 36 (.agg #[.string a,.string b,.string c,.string d,.string e,.string f,.string g,.string h,.string i]) (.agg #[.string a,.string b,.string c,.string d,.string e,.string f,.string g,.string h,.string i])).run Tryz.prog w=.ok (.bool false) w:=tri_same
 go_enter Tryz.func19,Tryz.ntmps19
 go_wp2
 go_loopw [5] (fun ii wr=>∃ k : Nat,k≤n∧ii=.int .i64 k∧Below w.heap.size w wr) (fun ii _=>n - (intOf ii).toNat)
 case atStart=>exact ⟨0,Nat.zero_le _,rfl,Below.refl _ _⟩
 case round =>
  obtain ⟨k,hk,rfl,hbw⟩:=hrel
  by_cases hlt : k<n
  ·obtain ⟨t,hg⟩:=HG.out k hlt
   obtain ⟨b,off,rfl,hcl⟩:=HCL.out (by omega)
   obtain ⟨b2,off2,rfl,hcl2⟩:=HCL2.out (by omega)
   obtain ⟨c0,c1,c2,c3,c4,c5,c6,c7,c8⟩:=ts_nine (w:=wr) (fun i u hu=>cell_below hbw (hcl k _ hg i u hu))
   obtain ⟨d0,d1,d2,d3,d4,d5,d6,d7,d8⟩:=ts_nine (w:=wr) (fun i u hu=>cell_below hbw (hcl2 k _ hg i u hu))
   have hk0 : (0 : Int)≤(k : Int):=by omega
   have hkn : (k : Int)<(n : Int):=by omega
   clear hg hcl hcl2
   generalize t.a.x=p0 at *
   generalize t.a.y=p1 at *
   generalize t.a.z=p2 at *
   generalize t.b.x=p3 at *
   generalize t.b.y=p4 at *
   generalize t.b.z=p5 at *
   generalize t.c.x=p6 at *
   generalize t.c.y=p7 at *
   generalize t.c.z=p8 at *
   have nr:=nq p0 p1 p2 p3 p4 p5 p6 p7 p8
   clear nq
   go_wp2
   go_quiet (fail)
   go_wp2
   go_roundw
   case rel=>exact ⟨k+1,by omega,by go_num,bel⟩
   case measure=>simp [intOf]; omega
  ·obtain rfl : k=n:=by omega
   go_wp2
   go_ret
   exact ⟨rfl,bel⟩
end Go.Proofs.YtopfedbhkfdjkaaGreatDoor


/- law of chapter 12: a solid and a row of vectors that came in, opened. -/
set_option maxRecDepth 100000
namespace Go.Proofs.YtopfedbhkfdjkaaGreatDoor
open Go Go.ChangeShapes Go.WideShapes Go.RowKit Go.Deep
section
variable {H : Type} {enc : TypeId × Value→H} {w : World} {base : Nat} {sp : Nat→Bool} {held : Bool} {fuel : Nat} {cs : List Value} {x : DataW H × List MemPlace}
theorem cells_vec : Tryz.prog.cellsOf 26=3:=by kernel_rfl
theorem cells_tri : Tryz.prog.cellsOf 36=9:=by kernel_rfl
theorem open_three {P : Program} {t : TypeId} {f0 f1 f2 : Field} (hs : P.underlying t=some (.struct #[f0,f1,f2])) (hone : oneCellFields P #[f0,f1,f2]=true) (hC : P.cellsOf t=3) (h : DataW.trod enc P w base sp held fuel t cs=some x) :
  ∃ (v0 v1 v2 : Value) (y0 y1 y2 : DataW H × List MemPlace) (n : Nat),cs=[v0,v1,v2]∧DataW.trod enc P w base sp held n f0.type [v0]=some y0∧DataW.trod enc P w base sp held n f1.type [v1]=some y1∧DataW.trod enc P w base sp held n f2.type [v2]=some y2:=by
 obtain ⟨xs,n,_,_,hlen,hl,hg⟩:=DataW.trod_struct hs h
 rw [hC] at hlen
 obtain ⟨o0,k0⟩:=hone_of hone 0 f0 rfl
 obtain ⟨o1,k1⟩:=hone_of hone 1 f1 rfl
 obtain ⟨o2,k2⟩:=hone_of hone 2 f2 rfl
 match cs,hlen,xs,hl with
 | [v0,v1,v2],_,[y0,y1,y2],_ =>
  exact ⟨v0,v1,v2,y0,y1,y2,n,rfl,by simpa [o0,k0] using hg 0 f0 rfl,by simpa [o1,k1] using hg 1 f1 rfl,by simpa [o2,k2] using hg 2 f2 rfl⟩
theorem open_vec (h : DataW.trod enc Tryz.prog w base sp held fuel 26 cs=some x) : ∃ s : SV,cs=s.cells:=by
 obtain ⟨v0,v1,v2,y0,y1,y2,n,rfl,h0,h1,h2⟩:=open_three Tryz.underlying26 (by kernel_rfl) (by kernel_rfl) h
 obtain ⟨s0,e0,_⟩:=DataW.trod_string Tryz.underlying24 h0
 obtain ⟨s1,e1,_⟩:=DataW.trod_string Tryz.underlying24 h1
 obtain ⟨s2,e2,_⟩:=DataW.trod_string Tryz.underlying24 h2
 simp at e0 e1 e2
 subst e0 e1 e2
 exact ⟨⟨s0,s1,s2⟩,rfl⟩
theorem open_tri (h : DataW.trod enc Tryz.prog w base sp held fuel 36 cs=some x) : ∃ t : TV,cs=t.cells:=by
 obtain ⟨xs,n,_,_,hlen,hl,hf⟩:=DataW.trod_array Tryz.underlying36 h
 rw [cells_tri] at hlen
 have one : ∀ i,i<3→∃ s : SV,(cs.drop (i * 3)).take 3=s.cells:=by
  intro i hi
  have h1:=hf i hi
  rw [cells_vec,List.getElem?_eq_getElem (by rw [hl]; exact hi)] at h1
  exact open_vec h1
 obtain ⟨a,ha⟩:=one 0 (by omega)
 obtain ⟨b,hb⟩:=one 1 (by omega)
 obtain ⟨c,hc⟩:=one 2 (by omega)
 refine ⟨⟨a,b,c⟩, ?_⟩
 have e : cs=(cs.drop (0 * 3)).take 3++(cs.drop (1 * 3)).take 3++(cs.drop (2 * 3)).take 3:=by
  match cs,hlen with
  | [_,_,_,_,_,_,_,_,_],_=>rfl
 rw [e,ha,hb,hc]
 rfl
end
theorem flat_get {α : Type} (k : Nat) (F : α→List Value) (hk : ∀ x,(F x).length=k) : ∀ (l : List α) (i : Nat) (u : Value),(l.flatMap F)[i]?=some u→0<k→∃ j r x,i=j * k+r∧r<k∧l[j]?=some x∧(F x)[r]?=some u
 | [],i,u,h,_=>by simp at h
 | a :: l,i,u,h,h0=>by
  rw [List.flatMap_cons] at h
  by_cases hi : i<k
  ·rw [List.getElem?_append_left (by rw [hk]; exact hi)] at h
   exact ⟨0,i,a,by omega,hi,rfl,h⟩
  ·rw [List.getElem?_append_right (by rw [hk]; omega),hk] at h
   obtain ⟨j,r,x,h1,h2,h3,h4⟩:=flat_get k F hk l (i - k) u h h0
   exact ⟨j+1,r,x,by rw [Nat.add_mul,Nat.one_mul]; omega,h2,by simpa using h3,h4⟩
section
variable {H : Type} {enc : TypeId × Value→H} {W : World} {v : Value} {d : DataW H} {p : List MemPlace}
theorem open_solid {r : Reach} {b0 : Nat} (hval : Value.okWide Tryz.prog W r b0 23 v) (h : DataW.Trod enc Tryz.prog W 0 (fun _=>true) true 23 v d p) : ∃ l : List TV,Ts W v l:=by
 obtain ⟨fuel,hf⟩:=h
 obtain ⟨a0,n0,c0,rfl⟩:=okWide_slice Tryz.underlying23 hval
 rcases open_slice Tryz.underlying23 hf with ⟨h0,_⟩ | ⟨a,len,cap,m,n,D,Pl,hcs,hb,hl,hm,hmm,hx,hi⟩
 ·simp [Value.cells] at h0
  obtain ⟨rfl,rfl,rfl⟩:=h0
  exact ⟨[],Ts.nil W⟩
 ·simp [Value.cells] at hcs
  obtain ⟨rfl,rfl,rfl⟩:=hcs
  have hmc : n0≤m:=by rw [hmm]; simp; exact hl
  have each : ∀ i,i<n0→∃ t : TV,∀ j u,(TV.cells t)[j]?=some u→W.cell? (a.add (i * 9+j))=some u:=fun i hin=>by
   obtain ⟨cs',h1,h2⟩:=hi i (by omega)
   obtain ⟨t,ht⟩:=open_tri h2
   rw [cells_tri] at h1
   obtain ⟨_,hlen,hc⟩:=World.cells?_some h1
   refine ⟨t,fun j u hu=>?_⟩
   have hj : j<9:=(List.getElem?_eq_some_iff.1 hu).1
   have:=hc j hj
   rw [Go.Deep.add_add,ht,hu] at this
   exact this
  have inh : Inhabited TV:=⟨⟨⟨⟨#[]⟩,⟨#[]⟩,⟨#[]⟩⟩,⟨⟨#[]⟩,⟨#[]⟩,⟨#[]⟩⟩,⟨⟨#[]⟩,⟨#[]⟩,⟨#[]⟩⟩⟩⟩
  obtain ⟨F,hF⟩:=choose_lt each
  refine ⟨(List.range n0).map F, ?_⟩
  have hlen : ((List.range n0).map F).length=n0:=by simp
  refine ⟨by rw [tcs_length],some a,c0,by rw [hlen],by rw [hlen]; exact hl,hm,fun h0=>?_⟩
  rw [hlen] at h0
  have hsp : a.spot=none:=by
   have:=hF 0 h0 0 _ rfl
   have:=World.cell?_spot this
   simpa [Addr.add] using this
  obtain ⟨b,off,spot⟩:=a
  simp at hsp
  subst hsp
  refine ⟨b,off,rfl,fun i u hu=>?_⟩
  obtain ⟨j,r,t,rfl,hr,hj,hu2⟩:=flat_get 9 TV.cells (fun _=>rfl) _ i u hu (by omega)
  have hj2 : j<n0:=by
   have:=(List.getElem?_eq_some_iff.1 hj).1
   simpa using this
  have e : t=F j:=by
   have:=(List.getElem?_eq_some_iff.1 hj).2
   simpa using this.symm
  subst e
  have:=hF j hj2 r u hu2
  rw [add_plain] at this
  exact this
end
end Go.Proofs.YtopfedbhkfdjkaaGreatDoor


/- law of chapter 12: words that all rows share: small solids, the listed variables, one world that fits. -/
namespace Go.Proofs.YtopfedbhkfdjkaaGreatDoor
open Go Go.ChangeShapes Go.WideShapes Go.ChangeAt Go.RowKit Go.Joins
open Go.ChangeMaps (open_string shut_string)
theorem rz_few {x : Rat} (h : (rtx x).size≤20) : rz x≤20:=Nat.le_trans (rz_le_size x) h
theorem few_le {A : V3} (h : isFew (txv A)=true) : A.le 20:=by
 simp only [isFew,Bool.and_eq_true,decide_eq_true_eq] at h
 exact ⟨rz_few h.1.1,rz_few h.1.2,rz_few h.2⟩
theorem few_sv {s : SV} (h : isFew s=true) : s.le 40000000:=by
 simp only [isFew,Bool.and_eq_true,decide_eq_true_eq] at h
 exact ⟨Nat.le_trans h.1.1 (by omega),Nat.le_trans h.1.2 (by omega),Nat.le_trans h.2 (by omega)⟩
/-! ### Small and valid solids -/
theorem few_tri {l : List TV} (h : fewT l=true) : ∀ t ∈ l,isFew t.a=true∧isFew t.b=true∧isFew t.c=true:=by
 unfold fewT at h
 rw [Bool.and_eq_true,List.all_eq_true] at h
 intro t ht
 have:=h.1 t ht
 simp only [fewTri,List.all_cons,List.all_nil,Bool.and_true,Bool.and_eq_true] at this
 exact this
theorem few_len {l : List TV} (h : fewT l=true) : l.length≤513:=by
 unfold fewT fewLen at h
 simp only [Bool.and_eq_true,Bool.or_eq_true,decide_eq_true_eq] at h
 omega
theorem few_tle {l : List TV} (h : fewT l=true) : tle l 40000000:=fun t ht=>⟨few_sv (few_tri h t ht).1,few_sv (few_tri h t ht).2.1,few_sv (few_tri h t ht).2.2⟩
theorem solid_of : ∀ {l : List TV},l.all tvalid=true→∃ L : List (Tr V3),l=L.map txt
 | [],_=>⟨[],rfl⟩
 | t :: l,h=>by
  rw [List.all_cons,Bool.and_eq_true] at h
  obtain ⟨L,rfl⟩:=solid_of h.2
  have h1:=h.1
  unfold tvalid at h1
  simp only [Bool.and_eq_true] at h1
  obtain ⟨A,hA⟩:=isVec_iff.1 h1.1.1
  obtain ⟨B,hB⟩:=isVec_iff.1 h1.1.2
  obtain ⟨C,hC⟩:=isVec_iff.1 h1.2
  refine ⟨⟨A,B,C⟩ :: L, ?_⟩
  obtain ⟨ta,tb,tc⟩:=t
  simp only at hA hB hC
  subst hA hB hC
  rfl
theorem few_leT {L : List (Tr V3)} (h : fewT (L.map txt)=true) : leT L 20:=by
 intro t ht
 obtain ⟨h1,h2,h3⟩:=few_tri h (txt t) (List.mem_map_of_mem ht)
 exact ⟨few_le h1,few_le h2,few_le h3⟩
theorem clone_sl (v : Value) (l : List TV) (n : Nat) (hn : l.length=n) (hm : n≤1000000) (w : World) (hv : Ts w v l) :
  Calls Tryz.prog 13 #[v] w (Ret fun r w'=>(∃ A c,r=.slice A n c∧Ts w' (.slice A n c) l)∧Below w.heap.size w w'):=by
 refine (cloneS_walk v l w hv (by omega)).mono ?_
 rintro e w' ⟨r,he,hu,hg⟩
 have hu2 : Ts w' r l:=Ts.own hu
 obtain ⟨A,c,hA,_⟩:=hu2.open
 subst hA
 rw [hn] at hu2 he
 exact ⟨_,he,⟨A,c,rfl,hu2⟩,hg⟩
/-! ### The row -/
theorem own : ownKnob Tryz.prog.godebug=none:=by kernel_rfl
theorem gPow : Tryz.prog.globalNamed "internal/strconv.uint64pow10" = some 3 := by kernel_rfl
def laidVals (d : DataW Unit) : Array Value:=match d with
 | .agg ds=>(ds.map fun x=>match x with | .lit (.int k z)=>Value.int k z | _=>Value.bool false).toArray
 | _=>#[]
abbrev laidList:=Rows.clipPartsRow.laid
theorem tab_of {W : World} (h : laidMetH Tryz.prog laidList W) : Lib.TabIs Tryz.prog W "internal/strconv.uint64pow10" .u64 Lib.pow10Tab := by
 have h2 : laidMet Tryz.prog laidList W:=h
 obtain ⟨ps,⟨_,_,_,_,_,_,_,_,_,_,⟨_,_,_,_,_,_,_,_,_,_,h3,_⟩,_⟩,_,_⟩:=h2
 obtain ⟨g',t',cs,fuel,p,q,hg',ht',hvar,hd,_,_⟩:=h3
 obtain rfl:=Option.some.inj (gPow.symm.trans hg')
 have hty : (Tryz.prog.globals[3]?).map (·.type)=some 335:=by kernel_rfl
 obtain rfl:=Option.some.inj (hty.symm.trans ht')
 unfold Lib.TabIs
 have hd2 : DataW.trod (fun _=>()) Tryz.prog W 0 (fun _=>true) false fuel 335 cs.toList=some (Lib.tabData .u64 Lib.pow10Tab,p):=hd
 rw [hvar,← Lib.cells_of_tab (n:=20) Tryz.underlying335 Tryz.underlying222 (by kernel_rfl) (by kernel_rfl) hd2]
theorem bw_of {W : World} (h : laidMetH Tryz.prog laidList W) (hs : W.ShapedOpen Tryz.prog) : Bw W :=
 ⟨tab_of h,cell_of_shapedOpen_int (zero:=#[.int .i64 0]) (t:=3) hs (of_decide_eq_true (by kernel_rfl)) (by kernel_rfl) rfl (by kernel_rfl) (by kernel_rfl) Tryz.underlying3⟩
/-! ### One input that fits -/
def putCells (cs : Array Value) : Obj→Obj
 | .cells _ t fr=>.cells cs t fr
 | o=>o
noncomputable def wlow : Nat:=(World.holding Tryz.prog default ⟨#[],#[],[]⟩).heap.size
abbrev rangeS : ByteArray:={ data:=#[118,97,108,117,101,32,111,117,116,32,111,102,32,114,97,110,103,101] }
abbrev syntaxS : ByteArray:={ data:=#[105,110,118,97,108,105,100,32,115,121,110,116,97,120] }
noncomputable def laidWorld (os : Os) : World :=
 let w0:=World.holding Tryz.prog os ⟨#[.cells #[.string rangeS] 341,.cells #[.string syntaxS] 341],#[],[]⟩
 { w0 with heap:=((((w0.heap.modify 4 (putCells (laidVals Rows.laid_math_bits_deBruijn32tab))).modify 5 (putCells (laidVals Rows.laid_math_bits_deBruijn64tab))).modify 3 (putCells (laidVals Rows.laid_internal_strconv_uint64pow10))).modify 2 (putCells #[.iface 339 (.pointer (some ⟨wlow,0,none⟩))])).modify 1 (putCells #[.iface 339 (.pointer (some ⟨wlow+1,0,none⟩))]) }
theorem laidOut : laidOutB Tryz.prog=true:=by kernel_rfl
def noSol : Value:=.slice none 0 0
end Go.Proofs.YtopfedbhkfdjkaaGreatDoor
