
/- mesh: keys that are points or edges; what Check answers. -/
import Derived.Test.YtopfedbhkfdjkaaGreatDoorE9
set_option linter.unusedVariables false
set_option linter.unusedSimpArgs false
namespace Go.Proofs.YtopfedbhkfdjkaaGreatDoor
open Go Go.RowKit
open Go.ChangeMaps (setBlock)
theorem bytes_same (x : ByteArray) : (x == x)=true:=by rw [beq_toListBytes]; simp
theorem sv_eq (s t : SV) : (s.x.toList == t.x.toList && (s.y.toList == t.y.toList && s.z.toList == t.z.toList))=decide (s=t):=by
 rw [toList_beq,toList_beq,toList_beq]
 obtain ⟨a,b,c⟩:=s
 obtain ⟨d,e,f⟩:=t
 by_cases h1 : a=d<;>by_cases h2 : b=e<;>by_cases h3 : c=f<;>simp [h1,h2,h3]
theorem equal_edge (a b c d e f a' b' c' d' e' f' : ByteArray) (w : World) : (Op.equal 114 (.agg #[.string a,.string b,.string c,.string d,.string e,.string f]) (.agg #[.string a',.string b',.string c',.string d',.string e',.string f'])).run Tryz.prog w=.ok ((a.toList == a'.toList && (b.toList == b'.toList && c.toList == c'.toList)) && (d.toList == d'.toList && (e.toList == e'.toList && f.toList == f'.toList))) w:=by
 unfold Op.equal Op.maxDepth
 go_simp
 by_cases h1 : a.toList=a'.toList<;>by_cases h2 : b.toList=b'.toList<;>by_cases h3 : c.toList=c'.toList<;>by_cases h4 : d.toList=d'.toList<;>by_cases h5 : e.toList=e'.toList<;>by_cases h6 : f.toList=f'.toList<;>simp [h1,h2,h3,h4,h5,h6]
theorem chk_edge (e : Bool) (a b c d f g : ByteArray) (w : World) : (Instr.checkKey e 10000 114 (.agg #[.string a,.string b,.string c,.string d,.string f,.string g])).run Tryz.prog w=.ok () w:=by kernel_rfl
theorem pair_eq (x y : SV × SV) : (decide (x.1=y.1) && decide (x.2=y.2))=decide (x=y):=by
 obtain ⟨x1,x2⟩:=x
 obtain ⟨y1,y2⟩:=y
 by_cases h1 : x1=y1<;>by_cases h2 : x2=y2<;>simp [h1,h2]
theorem kl_edge : KL Tryz.prog 114 ek where
 chk:=fun e x w=>chk_edge e x.1.x x.1.y x.1.z x.2.x x.2.y x.2.z w
 eq:=fun x y w=>by
  have:=equal_edge x.1.x x.1.y x.1.z x.2.x x.2.y x.2.z y.1.x y.1.y y.1.z y.2.x y.2.y y.2.z w
  rw [sv_eq,sv_eq] at this
  rw [ek_eq,ek_eq,this,pair_eq]
 und:=⟨_,Tryz.underlying114,fun _ _=>rfl⟩
 bits:=fun x=>by unfold ek; simp [Instr.sameBits,bytes_same]
theorem zero_int (w : World) : (zeroValue 3).run Tryz.prog w=.ok (iv 0) w:=by unfold iv; kernel_rfl
theorem under_em : Tryz.prog.underlying 112=some (.map 114 3):=Tryz.underlying112
def chkC (l : List TV) : Int:=if 512<l.length then 8 else if l.all tvalid then (if openT l then 17 else 0) else 1
theorem chkC_large {l : List TV} (h : 512<l.length) : chkC l=8:=by unfold chkC; rw [if_pos h]
theorem chkC_arg {l : List TV} {k : Nat} {t : TV} (h : ¬ 512<l.length) (hk : l[k]?=some t) (ht : tvalid t=false) : chkC l=1:=by
 unfold chkC
 have : l.all tvalid=false:=List.all_eq_false.2 ⟨t,List.mem_of_getElem? hk,by rw [ht]; decide⟩
 rw [if_neg h,this]
 rfl
theorem chkC_open {l : List TV} (h : ¬ 512<l.length) (hv : l.all tvalid=true) (ho : openT l=true) : chkC l=17:=by
 unfold chkC
 rw [if_neg h,if_pos hv,if_pos ho]
theorem chkC_ok {l : List TV} (h : ¬ 512<l.length) (hv : l.all tvalid=true) (ho : openT l=false) : chkC l=0:=by
 unfold chkC
 rw [if_neg h,if_pos hv,ho]
 rfl
theorem chkC_zero {l : List TV} (h : chkC l=0) : l.length≤512∧l.all tvalid=true∧openT l=false:=by
 unfold chkC at h
 split at h
 ·cases h
 ·split at h
  ·rename_i h2
   refine ⟨by omega,h2, ?_⟩
   cases ho : openT l with
   | false=>rfl
   | true=>rw [ho] at h; cases h
  ·cases h
theorem take_valid {l : List TV} {k : Nat} {t : TV} (hk : l[k]?=some t) (h : (l.take k).all tvalid=true) (ht : tvalid t=true) : (l.take (k+1)).all tvalid=true:=by
 have hlt : k<l.length:=(List.getElem?_eq_some_iff.1 hk).1
 have e : l[k]=t:=(List.getElem?_eq_some_iff.1 hk).2
 rw [List.take_succ_eq_append_getElem hlt,List.all_append,h,e]
 simp [ht]
theorem take_edges {l : List TV} {k : Nat} {t : TV} (hk : l[k]?=some t) : edges (l.take (k+1))=edges (l.take k)++[(t.a,t.b)]++[(t.b,t.c)]++[(t.c,t.a)]:=by
 have hlt : k<l.length:=(List.getElem?_eq_some_iff.1 hk).1
 have e : l[k]=t:=(List.getElem?_eq_some_iff.1 hk).2
 rw [List.take_succ_eq_append_getElem hlt,e]
 unfold edges
 rw [List.flatMap_append]
 simp [Tr.edges]
theorem ix_tri0 (a b c d e f g h i : Value) (W : World) : (Instr.index 36 (.agg #[a,b,c,d,e,f,g,h,i]) (.int .i64 0)).run Tryz.prog W=.ok (.agg #[a,b,c]) W:=by kernel_rfl
theorem ix_tri1 (a b c d e f g h i : Value) (W : World) : (Instr.index 36 (.agg #[a,b,c,d,e,f,g,h,i]) (.int .i64 1)).run Tryz.prog W=.ok (.agg #[d,e,f]) W:=by kernel_rfl
theorem ix_tri2 (a b c d e f g h i : Value) (W : World) : (Instr.index 36 (.agg #[a,b,c,d,e,f,g,h,i]) (.int .i64 2)).run Tryz.prog W=.ok (.agg #[g,h,i]) W:=by kernel_rfl
end Go.Proofs.YtopfedbhkfdjkaaGreatDoor


/- mesh: Check. -/
namespace Go.Proofs.YtopfedbhkfdjkaaGreatDoor
open Go Go.RowKit
open Go.ChangeMaps (setBlock)
theorem mp_alloc {W : World} {b : Nat} {o o' : Obj} (h : W.heap[b]?=some o) : (W.alloc o').heap[b]?=some o:=((MapKept.heap_alloc W o').2 b (Array.getElem?_eq_some_iff.1 h).1).trans h
theorem mp_lt {W : World} {b : Nat} {o : Obj} (h : W.heap[b]?=some o) : b<W.heap.size:=(Array.getElem?_eq_some_iff.1 h).1
structure Turned (W : World) (b : Nat) (o : Obj) (W1 : World) : Prop where
 os : W1.os=W.os
 tape : W1.tape=W.tape
 output : W1.output=W.output
 size : W1.heap.size=W.heap.size
 here : W1.heap[b]?=some o
 far : ∀ i,i≠b→W1.heap[i]?=W.heap[i]?
theorem turned_start {W : World} {b : Nat} {o : Obj} (h : W.heap[b]?=some o) : Turned W b o W:=⟨rfl,rfl,rfl,rfl,h,fun _ _=>rfl⟩
theorem turned_drew {W W1 : World} {b : Nat} {o : Obj} (h : Turned W b o W1) : Turned W b o W1.drew:=⟨h.os,h.tape,h.output,h.size,h.here,h.far⟩
theorem turned_set {W W1 : World} {b : Nat} {o o' : Obj} (h : Turned W b o W1) : Turned W b o' (setBlock W1 b o') :=
 ⟨h.os,h.tape,h.output,(setBlock_size _ _ _).trans h.size,setBlock_heap h.here,fun i hi=>(setBlock_far hi).trans (h.far i hi)⟩
theorem Turned.below {B : Nat} {w W W1 : World} {b : Nat} {o : Obj} (h : Turned W b o W1) (g : Below B w W) (hb : B≤b) : Below B w W1 :=
 g.trans ⟨h.os,h.tape,h.output,Nat.le_of_eq h.size.symm,fun k hk=>h.far k (by omega)⟩
theorem Turned.cell {W W1 : World} {b : Nat} {o : Obj} (h : Turned W b o W1) {p : Addr} {v : Value} (hc : W.cell? p=some v) (hp : p.block≠b) : W1.cell? p=some v :=
 (World.cell?_of_block (h.far p.block hp)).trans hc
def TK (W : World) (b : Nat) (W1 : World) : Prop:=∃ o,Turned W b o W1
theorem tk_start {W : World} {b : Nat} {o : Obj} (h : W.heap[b]?=some o) : TK W b W:=⟨o,turned_start h⟩
theorem turned_last {W W1 : World} {b : Nat} {o' : Obj} (h : TK W b W1) : Turned W b o' (setBlock W1 b o'):=turned_set h.choose_spec
theorem tk_drew {W W1 : World} {b : Nat} (h : TK W b W1) : TK W b W1.drew:=⟨_,turned_drew h.choose_spec⟩
theorem tk_set {W W1 : World} {b : Nat} {o' : Obj} (h : TK W b W1) : TK W b (setBlock W1 b o'):=⟨_,turned_set h.choose_spec⟩
theorem TK.cell {W W1 : World} {b : Nat} (h : TK W b W1) {p : Addr} {v : Value} (hc : W.cell? p=some v) (hp : p.block≠b) : W1.cell? p=some v:=h.choose_spec.cell hc hp
theorem MI.le1 {m : List ((SV × SV) × Int)} {es : List (SV × SV)} (h : MI m es) (e x : SV × SV) : (kget (mput m e 1) x).getD 0≤es.length+1∧- (es.length : Int)≤(kget (mput m e 1) x).getD 0:=by
 unfold mput
 rw [kget_kset]
 split
 ·have:=h.le e
  simp only [Option.getD_some]
  omega
 ·have:=h.le x
  omega
theorem rg_seen {κ υ : Type} {f : κ→Value} {g : υ→Value} {w : World} {r b : Nat} {l : List (κ × υ)} {seen : Array Nat} (h : Rg w r b f g l seen) : w.iterSeen r=seen:=by
 unfold World.iterSeen
 rw [h.1]
theorem Rg_alloc {κ υ : Type} {f : κ→Value} {g : υ→Value} {w : World} {r b : Nat} {l : List (κ × υ)} {seen : Array Nat} (h : Rg w r b f g l seen) {o : Obj} : Rg (w.alloc o) r b f g l seen:=⟨mp_alloc h.1,mp_alloc h.2⟩
theorem neq_vec (a b c d e f : ByteArray) (w : World) : (binOp .neq 26 (.agg #[.string a,.string b,.string c]) (.agg #[.string d,.string e,.string f])).run Tryz.prog w=.ok (.bool !(a.toList == d.toList && (b.toList == e.toList && c.toList == f.toList))) w:=by
 go_simp
 by_cases h1 : a.toList=d.toList<;>by_cases h2 : b.toList=e.toList<;>by_cases h3 : c.toList=f.toList<;>simp [h1,h2,h3]
theorem em_rules (W0 : World) (mb : Nat) (m : List ((SV × SV) × Int)) (e : SV × SV) (d : Int) (hm : W0.heap[mb]?=some (Mo ek iv m)) : ∃ (M1 : Obj) (q : Nat),
  (∀ W : World,W.heap=W0.heap→(Instr.lookup 112 (.map (some mb)) (.agg #[.string e.1.x,.string e.1.y,.string e.1.z,.string e.2.x,.string e.2.y,.string e.2.z]) false).run Tryz.prog W=.ok (.int .i64 ((kget m e).getD 0)) W) ∧
  (∀ W : World,W.heap=W0.heap→(Instr.mapEntry 112 (.map (some mb)) (.agg #[.string e.1.x,.string e.1.y,.string e.1.z,.string e.2.x,.string e.2.y,.string e.2.z])).run Tryz.prog W=.ok (.tuple #[.int .i64 ((kget m e).getD 0),.int .i64 q]) (setBlock W mb M1)) ∧
  (∀ W : World,W.heap=(setBlock W0 mb M1).heap→(Instr.lookup 112 (.map (some mb)) (.agg #[.string e.1.x,.string e.1.y,.string e.1.z,.string e.2.x,.string e.2.y,.string e.2.z]) false).run Tryz.prog W=.ok (.int .i64 ((kget m e).getD 0)) W) ∧
  (∀ W : World,W.heap=(setBlock W0 mb M1).heap→(Instr.entryStore 112 (.map (some mb)) (.int .i64 q) (.int .i64 ((kget m e).getD 0+d))).run Tryz.prog W=.ok () (setBlock W mb (Mo ek iv (mput m e d)))):=by
 refine ⟨Mo ek iv (ktouch m e 0),kat m e,fun W h=>?_,fun W h=>?_,fun W h=>?_,fun W h=>?_⟩
 ·have:=mo_lookup (g:=iv) kl_edge under_em (w:=W) (b:=mb) (l:=m) (by rw [h]; exact hm) e 0 (zero_int W) false
  exact this
 ·have:=mo_entry (g:=iv) kl_edge under_em (w:=W) (b:=mb) (l:=m) (by rw [h]; exact hm) e 0 (zero_int W)
  exact this
 ·have:=mo_lookup (g:=iv) kl_edge under_em (w:=W) (b:=mb) (l:=ktouch m e 0) (by rw [h]; exact setBlock_heap hm) e 0 (zero_int W) false
  have e2 : (kget (ktouch m e 0) e).getD 0=(kget m e).getD 0:=by unfold ktouch; rw [kget_kset,if_pos rfl]; rfl
  rw [e2] at this
  exact this
 ·exact mo_store (g:=iv) (t:=112) (w:=W) (b:=mb) (l:=m) (x:=e) (z:=0) (by rw [h]; exact setBlock_heap hm) _
set_option maxHeartbeats 4000000 in
set_option maxRecDepth 100000 in
theorem check_walk (v : Value) (l : List TV) (w : World) (hB : Bw w) (hv : Ts w v l) (hs : tle l 40000000) :
  Calls Tryz.prog 29 #[v] w fun e w'=>e=.returned (.int .i64 (chkC l))∧Below w.heap.size w w':=by
 obtain ⟨A,cap,rfl,hn,hc,hcell⟩:=hv.open
 have HCL:=Lib.hid hcell
 clear hv hcell
 by_cases hbig : 512<l.length
 ·have E:=Lib.hid (chkC_large hbig)
  have hbig2 : (512 : Int)<(l.length : Int):=by omega
  clear hs HCL
  go_enter Tryz.func29,Tryz.ntmps29
  go_wp2
  go_ret
  exact ⟨ret_i64 E.out.symm,bel⟩
 ·have HS:=Lib.hid hs
  have HARG:=Lib.hid (fun k t (hk : l[k]?=some t) (ht : tvalid t=false)=>chkC_arg hbig hk ht)
  have HOPEN:=Lib.hid (fun hv ho=>chkC_open hbig hv ho)
  have HOK:=Lib.hid (fun hv ho=>chkC_ok hbig hv ho)
  have HG:=Lib.hid (fun k (hk : k<l.length)=>(List.getElem?_eq_getElem hk : l[k]?=some l[k]))
  have HTE:=Lib.hid (show l.take l.length=l from List.take_length)
  have hn512 : (l.length : Int)≤512:=by omega
  clear hs
  obtain ⟨n,hn0⟩ : ∃ n,n=l.length:=⟨_,rfl⟩
  have HN:=Lib.hid hn0
  have HG2:=Lib.hid (fun k (hk : k<n)=>(show ∃ t,l[k]?=some t from ⟨_,HG.out k (by rw [← HN.out]; exact hk)⟩))
  rw [← hn0] at hn hbig HCL HTE hn512 ⊢
  clear hn0 HG
  have ix0:=ix_tri0
  have ix1:=ix_tri1
  have ix2:=ix_tri2
  go_enter Tryz.func29,Tryz.ntmps29
  go_wp2
  go_loopw [20] (fun ii wr=>∃ k : Nat,k≤n∧ii=.int .i64 k∧Hid ((l.take k).all tvalid=true)∧Below w.heap.size w wr) (fun ii _=>n - (intOf ii).toNat)
  case atStart=>exact ⟨0,Nat.zero_le _,rfl,Lib.hid rfl,Below.refl _ _⟩
  case round =>
   obtain ⟨k,hk,rfl,hd,hb⟩:=hrel
   have hsz:=hb.size
   by_cases hlt : k<n
   ·obtain ⟨t,hg⟩:=HG2.out k hlt
    obtain ⟨b,off,rfl,hcl⟩:=HCL.out (by omega)
    obtain ⟨c0,c1,c2,c3,c4,c5,c6,c7,c8⟩:=ts_nine (hcl _ _ hg)
    obtain ⟨l0,l1,l2⟩:=tle_take HS.out hg
    have HV0:=Lib.hid (fun w hB=>vValid_walk t.a l0 w hB)
    have HV1:=Lib.hid (fun w hB=>vValid_walk t.b l1 w hB)
    have HV2:=Lib.hid (fun w hB=>vValid_walk t.c l2 w hB)
    unfold SV.val at HV0 HV1 HV2
    have HF : Hid ((isVec t.a && isVec t.b && isVec t.c)=false→chkC l=1):=Lib.hid (fun h=>HARG.out k t hg h)
    have HT : Hid ((isVec t.a && isVec t.b && isVec t.c)=true→(l.take (k+1)).all tvalid=true):=Lib.hid (fun h=>take_valid hg hd.out h)
    have d0:=cell_below hb c0
    have d1:=cell_below hb c1
    have d2:=cell_below hb c2
    have d3:=cell_below hb c3
    have d4:=cell_below hb c4
    have d5:=cell_below hb c5
    have d6:=cell_below hb c6
    have d7:=cell_below hb c7
    have d8:=cell_below hb c8
    clear hg hcl l0 l1 l2 c0 c1 c2 c3 c4 c5 c6 c7 c8 hd
    generalize t.a.x=x0 at *
    generalize t.a.y=y0 at *
    generalize t.a.z=z0 at *
    generalize t.b.x=x1 at *
    generalize t.b.y=y1 at *
    generalize t.b.z=z1 at *
    generalize t.c.x=x2 at *
    generalize t.c.y=y2 at *
    generalize t.c.z=z2 at *
    generalize isVec t.a=r0 at *
    generalize isVec t.b=r1 at *
    generalize isVec t.c=r2 at *
    have hk0 : (0 : Int)≤(k : Int):=by omega
    have hkn : (k : Int)<(n : Int):=by omega
    go_wp2
    refine wp_loop_rounds 4 ?_
    rw [rounds_succ]
    go_wp2_with fail
    refine (HV0.out _ (hB.below bel)).mono ?_
    rintro e w1 ⟨rfl,g1⟩
    have B1:=bn (w:=w) bel g1
    clear g1
    cases r0
    ·have E:=Lib.hid (HF.out rfl)
     clear HF HT
     go_wp2
     go_ret
     exact ⟨ret_i64 E.out.symm,bel⟩
    ·have hs1:=B1.size
     go_wp2
     rw [rounds_succ]
     go_wp2_with fail
     refine (HV1.out _ (hB.below bel)).mono ?_
     rintro e w2 ⟨rfl,g2⟩
     have B2:=bn (w:=w) bel g2
     clear g2
     cases r1
     ·have E:=Lib.hid (HF.out rfl)
      clear HF HT
      go_wp2
      go_ret
      exact ⟨ret_i64 E.out.symm,bel⟩
     ·have hs2:=B2.size
      go_wp2
      rw [rounds_succ]
      go_wp2_with fail
      refine (HV2.out _ (hB.below bel)).mono ?_
      rintro e w3 ⟨rfl,g3⟩
      have B3:=bn (w:=w) bel g3
      clear g3
      cases r2
      ·have E:=Lib.hid (HF.out rfl)
       clear HF HT
       go_wp2
       go_ret
       exact ⟨ret_i64 E.out.symm,bel⟩
      ·have E:=Lib.hid (HT.out rfl)
       clear HF HT
       go_wp2
       rw [rounds_succ]
       go_wp2
       go_roundw
       case rel=>exact ⟨k+1,by omega,by go_num,E,bel⟩
       case measure=>simp [intOf]; omega
   ·obtain rfl : k=n:=by omega
    rw [HTE.out] at hd
    have hmm:=@run_makeMap Tryz.prog
    go_wp2
    obtain ⟨wm,hwm⟩ : ∃ wm,wm=wr:=⟨_,rfl⟩
    subst hwm
    have hmz:=hb.size
    have HD:=Lib.hid hd.out
    clear hd
    obtain ⟨mb,hmb⟩ : ∃ mb,mb=wm.heap.size:=⟨_,rfl⟩
    rw [← hmb]
    have hmb1 : w.heap.size≤mb:=by omega
    have HMB:=Lib.hid hmb
    clear hmb
    go_loopw [36] (fun ii wr=>∃ i : Nat,i≤k∧ii=.int .i64 i∧(∃ m,wr.heap[mb]?=some (Mo ek iv m)∧Hid (MI m (edges (l.take i))))∧Below w.heap.size w wr) (fun ii _=>k - (intOf ii).toNat)
    case atStart=>exact ⟨0,Nat.zero_le _,rfl,⟨[],by rw [HMB.out]; exact heap_new wm _,Lib.hid MI.nil⟩,ba hb⟩
    case round =>
     obtain ⟨i,hi,rfl,⟨m,hm,hmi⟩,hb2⟩:=hrel
     have hsz2:=hb2.size
     have hmlt:=mp_lt hm
     by_cases hlt2 : i<k
     ·obtain ⟨t,hg⟩:=HG2.out i hlt2
      obtain ⟨b,off,rfl,hcl⟩:=HCL.out (by omega)
      obtain ⟨c0,c1,c2,c3,c4,c5,c6,c7,c8⟩:=ts_nine (hcl _ _ hg)
      have d0:=cell_below hb2 c0
      have d1:=cell_below hb2 c1
      have d2:=cell_below hb2 c2
      have d3:=cell_below hb2 c3
      have d4:=cell_below hb2 c4
      have d5:=cell_below hb2 c5
      have d6:=cell_below hb2 c6
      have d7:=cell_below hb2 c7
      have d8:=cell_below hb2 c8
      have HE:=Lib.hid (take_edges hg)
      clear hg hcl c0 c1 c2 c3 c4 c5 c6 c7 c8
      obtain ⟨pa,pb,pc⟩:=t
      dsimp only at d0 d1 d2 d3 d4 d5 d6 d7 d8 HE
      have hi0 : (0 : Int)≤(i : Int):=by omega
      have hik : (i : Int)<(k : Int):=by omega
      have hml : (edges (l.take i)).length≤1536:=by rw [edges_length]; have:=List.length_take_le i l; omega
      have hsd : ∀ (W : World) (b : Nat) (o : Obj),(setBlock W.drew b o).heap=(setBlock W b o).heap:=fun _ _ _=>rfl
      have hsd2 : ∀ (W : World),W.drew.heap=W.heap:=fun _=>rfl
      obtain ⟨tb,htb⟩ : ∃ tb,tb=wr.heap.size:=⟨_,rfl⟩
      have HTB:=Lib.hid htb
      have N0 : tb≠mb:=by omega
      go_wp2
      obtain ⟨V0,hV0⟩ : ∃ V0,V0=wr.alloc (.cells #[.string pa.x,.string pa.y,.string pa.z,.string pb.x,.string pb.y,.string pb.z,.string pc.x,.string pc.y,.string pc.z] 36):=⟨_,rfl⟩
      rw [← hV0,← htb]
      have e0_0 : V0.cell? ⟨tb,0,none⟩=some (.string pa.x):=by rw [hV0,htb]; go_simp
      have e0_1 : V0.cell? ⟨tb,1,none⟩=some (.string pa.y):=by rw [hV0,htb]; go_simp
      have e0_2 : V0.cell? ⟨tb,2,none⟩=some (.string pa.z):=by rw [hV0,htb]; go_simp
      have e0_3 : V0.cell? ⟨tb,3,none⟩=some (.string pb.x):=by rw [hV0,htb]; go_simp
      have e0_4 : V0.cell? ⟨tb,4,none⟩=some (.string pb.y):=by rw [hV0,htb]; go_simp
      have e0_5 : V0.cell? ⟨tb,5,none⟩=some (.string pb.z):=by rw [hV0,htb]; go_simp
      have e0_6 : V0.cell? ⟨tb,6,none⟩=some (.string pc.x):=by rw [hV0,htb]; go_simp
      have e0_7 : V0.cell? ⟨tb,7,none⟩=some (.string pc.y):=by rw [hV0,htb]; go_simp
      have e0_8 : V0.cell? ⟨tb,8,none⟩=some (.string pc.z):=by rw [hV0,htb]; go_simp
      have m0 : V0.heap[mb]?=some (Mo ek iv m):=by rw [hV0]; exact mp_alloc hm
      have b0 : Below w.heap.size w V0:=by rw [hV0]; exact ba hb2
      have s0 : mb<V0.heap.size:=mp_lt m0
      have t0 : tb<V0.heap.size:=World.block_lt_of_cell? V0 _ e0_0
      have mi0:=hmi
      clear hm hmi hb2 hV0 htb hmlt hsz2 d0 d1 d2 d3 d4 d5 d6 d7 d8
      refine wp_loop_rounds 4 ?_
      rw [rounds_succ]
      go_upto_block 7 with fail
      go_cut [50] (fun sx wx=>wx.heap[mb]?=some (Mo ek iv (mput (mput m (pa,pb) 1) (pb,pa) (-1)))∧Below w.heap.size w wx∧wx.cell? ⟨tb,0,none⟩=some (.string pa.x)∧wx.cell? ⟨tb,1,none⟩=some (.string pa.y)∧wx.cell? ⟨tb,2,none⟩=some (.string pa.z)∧wx.cell? ⟨tb,3,none⟩=some (.string pb.x)∧wx.cell? ⟨tb,4,none⟩=some (.string pb.y)∧wx.cell? ⟨tb,5,none⟩=some (.string pb.z)∧wx.cell? ⟨tb,6,none⟩=some (.string pc.x)∧wx.cell? ⟨tb,7,none⟩=some (.string pc.y)∧wx.cell? ⟨tb,8,none⟩=some (.string pc.z))
      case first =>
       go_wp2
       obtain ⟨A0,hA⟩ : ∃ A,A=((V0.alloc (.cells #[.string pa.x,.string pa.y,.string pa.z] 26)).alloc (.cells #[.string pb.x,.string pb.y,.string pb.z] 26)):=⟨_,rfl⟩
       have m_A0 : A0.heap[mb]?=some (Mo ek iv m):=by rw [hA]; exact mp_alloc (mp_alloc m0)
       have b_A0 : Below w.heap.size w A0:=by rw [hA]; have:=b0.size; exact ba (ba b0)
       have x0 : A0.cell? ⟨V0.heap.size,0,none⟩=some (.string pa.x):=by rw [hA]; go_simp
       have x1 : A0.cell? ⟨V0.heap.size,1,none⟩=some (.string pa.y):=by rw [hA]; go_simp
       have x2 : A0.cell? ⟨V0.heap.size,2,none⟩=some (.string pa.z):=by rw [hA]; go_simp
       have y0 : A0.cell? ⟨V0.heap.size+1,0,none⟩=some (.string pb.x):=by rw [hA]; go_simp
       have y1 : A0.cell? ⟨V0.heap.size+1,1,none⟩=some (.string pb.y):=by rw [hA]; go_simp
       have y2 : A0.cell? ⟨V0.heap.size+1,2,none⟩=some (.string pb.z):=by rw [hA]; go_simp
       have a0_0 : A0.cell? ⟨tb,0,none⟩=some (.string pa.x):=by rw [hA]; exact cal (cal e0_0)
       have a0_1 : A0.cell? ⟨tb,1,none⟩=some (.string pa.y):=by rw [hA]; exact cal (cal e0_1)
       have a0_2 : A0.cell? ⟨tb,2,none⟩=some (.string pa.z):=by rw [hA]; exact cal (cal e0_2)
       have a0_3 : A0.cell? ⟨tb,3,none⟩=some (.string pb.x):=by rw [hA]; exact cal (cal e0_3)
       have a0_4 : A0.cell? ⟨tb,4,none⟩=some (.string pb.y):=by rw [hA]; exact cal (cal e0_4)
       have a0_5 : A0.cell? ⟨tb,5,none⟩=some (.string pb.z):=by rw [hA]; exact cal (cal e0_5)
       have a0_6 : A0.cell? ⟨tb,6,none⟩=some (.string pc.x):=by rw [hA]; exact cal (cal e0_6)
       have a0_7 : A0.cell? ⟨tb,7,none⟩=some (.string pc.y):=by rw [hA]; exact cal (cal e0_7)
       have a0_8 : A0.cell? ⟨tb,8,none⟩=some (.string pc.z):=by rw [hA]; exact cal (cal e0_8)
       have z_A0 : V0.heap.size+1<A0.heap.size:=World.block_lt_of_cell? A0 _ y0
       rw [← hA]
       clear hA
       obtain ⟨MA0,qA0,r1,r2,r3,r4⟩:=em_rules A0 mb m (pa,pb) 1 m_A0
       dsimp only at r1 r2 r3 r4
       obtain ⟨z,hz⟩ : ∃ z,z=(kget m (pa,pb)).getD 0:=⟨_,rfl⟩
       have hz1:=(mi0.out.le (pa,pb)).1
       have hz2:=(mi0.out.le (pa,pb)).2
       rw [← hz] at r1 r2 r3 r4 hz1 hz2
       have hz3 : z≤2000:=by omega
       have hz4 : -2000≤z:=by omega
       have hzw : IntKind.i64.wrap (z+1)=z+1:=by rw [IntKind.wrap_i64]; omega
       have HM_A0:=Lib.hid m_A0
       have N1 : V0.heap.size≠mb:=by omega
       have N2 : V0.heap.size+1≠mb:=by omega
       clear hz hz1 hz2 m_A0
       go_upto_region 21 with fail
       go_cut [50] (fun sx wx=>sx=.map (some mb)∧Turned A0 mb (Mo ek iv (mput m (pa,pb) 1)) wx)
       case first =>
        go_region_held3 (fun w'=>w'.cell? ⟨V0.heap.size,0,none⟩=some (.string pa.x)∧w'.cell? ⟨V0.heap.size,1,none⟩=some (.string pa.y)∧w'.cell? ⟨V0.heap.size,2,none⟩=some (.string pa.z)∧w'.cell? ⟨V0.heap.size+1,0,none⟩=some (.string pb.x)∧w'.cell? ⟨V0.heap.size+1,1,none⟩=some (.string pb.y)∧w'.cell? ⟨V0.heap.size+1,2,none⟩=some (.string pb.z))
         ((go_split_ands; refine (fun (hT : TK A0 mb _)=>⟨hT.cell x0 N1,hT.cell x1 N1,hT.cell x2 N1,hT.cell y0 N2,hT.cell y1 N2,hT.cell y2 N2⟩) ?_; repeat (first | with_reducible exact tk_start HM_A0.out | with_reducible refine tk_drew ?_ | with_reducible refine tk_set ?_)))
         (fail)
        all_goals
         go_wp2_with fail
         go_meet
         exact ⟨rfl,(by (repeat (with_reducible refine turned_drew ?_)); with_reducible refine turned_last ?_; repeat (first | with_reducible exact tk_start HM_A0.out | with_reducible refine tk_drew ?_ | with_reducible refine tk_set ?_))⟩
       case rest =>
        obtain ⟨rfl,hT⟩:=hcut
        obtain ⟨B0,hWW⟩ : ∃ x,x=wc:=⟨_,rfl⟩
        subst hWW
        have m_B0:=hT.here
        have b_B0:=hT.below b_A0 hmb1
        have x0:=hT.cell x0 N1
        have x1:=hT.cell x1 N1
        have x2:=hT.cell x2 N1
        have y0:=hT.cell y0 N2
        have y1:=hT.cell y1 N2
        have y2:=hT.cell y2 N2
        have a0_0:=hT.cell a0_0 N0
        have a0_1:=hT.cell a0_1 N0
        have a0_2:=hT.cell a0_2 N0
        have a0_3:=hT.cell a0_3 N0
        have a0_4:=hT.cell a0_4 N0
        have a0_5:=hT.cell a0_5 N0
        have a0_6:=hT.cell a0_6 N0
        have a0_7:=hT.cell a0_7 N0
        have a0_8:=hT.cell a0_8 N0
        have z_B0 : V0.heap.size+1<B0.heap.size:=World.block_lt_of_cell? B0 _ y0
        clear hT r1 r2 r3 r4 N1 N2 hz3 hz4 hzw
        obtain ⟨MB0,qB0,r1,r2,r3,r4⟩:=em_rules B0 mb (mput m (pa,pb) 1) (pb,pa) (-1) m_B0
        dsimp only at r1 r2 r3 r4
        obtain ⟨z,hz⟩ : ∃ z,z=(kget (mput m (pa,pb) 1) (pb,pa)).getD 0:=⟨_,rfl⟩
        have hz1:=(mi0.out.le1 (pa,pb) (pb,pa)).1
        have hz2:=(mi0.out.le1 (pa,pb) (pb,pa)).2
        rw [← hz] at r1 r2 r3 r4 hz1 hz2
        have hz3 : z≤2000:=by omega
        have hz4 : -2000≤z:=by omega
        rw [show z + (-1)=z - 1 by omega] at r4
        have hzw : IntKind.i64.wrap (z - 1)=z - 1:=by rw [IntKind.wrap_i64]; omega
        have HM_B0:=Lib.hid m_B0
        have N1 : V0.heap.size+1≠mb:=by omega
        have N2 : V0.heap.size≠mb:=by omega
        clear hz hz1 hz2 m_B0
        go_upto_region 22 with fail
        go_region_held3 (fun w'=>w'.cell? ⟨V0.heap.size+1,0,none⟩=some (.string pb.x)∧w'.cell? ⟨V0.heap.size+1,1,none⟩=some (.string pb.y)∧w'.cell? ⟨V0.heap.size+1,2,none⟩=some (.string pb.z)∧w'.cell? ⟨V0.heap.size,0,none⟩=some (.string pa.x)∧w'.cell? ⟨V0.heap.size,1,none⟩=some (.string pa.y)∧w'.cell? ⟨V0.heap.size,2,none⟩=some (.string pa.z))
         ((go_split_ands; refine (fun (hT : TK B0 mb _)=>⟨hT.cell y0 N1,hT.cell y1 N1,hT.cell y2 N1,hT.cell x0 N2,hT.cell x1 N2,hT.cell x2 N2⟩) ?_; repeat (first | with_reducible exact tk_start HM_B0.out | with_reducible refine tk_drew ?_ | with_reducible refine tk_set ?_)))
         (fail)
        all_goals
         go_wp2_with fail
         go_meet
         exact (fun (hT : Turned B0 mb (Mo ek iv (mput (mput m (pa,pb) 1) (pb,pa) (-1))) _)=>⟨hT.here,hT.below b_B0 hmb1,hT.cell a0_0 N0,hT.cell a0_1 N0,hT.cell a0_2 N0,hT.cell a0_3 N0,hT.cell a0_4 N0,hT.cell a0_5 N0,hT.cell a0_6 N0,hT.cell a0_7 N0,hT.cell a0_8 N0⟩) (by (repeat (with_reducible refine turned_drew ?_)); with_reducible refine turned_last ?_; repeat (first | with_reducible exact tk_start HM_B0.out | with_reducible refine tk_drew ?_ | with_reducible refine tk_set ?_))
      obtain ⟨m1,b1,e1_0,e1_1,e1_2,e1_3,e1_4,e1_5,e1_6,e1_7,e1_8⟩:=hcut
      obtain ⟨V1,hWW⟩ : ∃ x,x=wc:=⟨_,rfl⟩
      subst hWW
      have mi1 : Hid (MI (mput (mput m (pa,pb) 1) (pb,pa) (-1)) (edges (l.take i)++[(pa,pb)])):=Lib.hid (mi0.out.put (pa,pb))
      have hml1 : (edges (l.take i)++[(pa,pb)]).length≤1537:=by rw [List.length_append]; simp only [List.length_singleton]; omega
      have t1 : tb<V1.heap.size:=World.block_lt_of_cell? V1 _ e1_0
      have s1 : mb<V1.heap.size:=mp_lt m1
      clear e0_0 e0_1 e0_2 e0_3 e0_4 e0_5 e0_6 e0_7 e0_8
      obtain ⟨n1,hn1⟩ : ∃ x,x=(mput (mput m (pa,pb) 1) (pb,pa) (-1)):=⟨_,rfl⟩
      rw [← hn1] at m1 mi1
      clear hn1
      go_wp2
      rw [rounds_succ]
      go_upto_block 7 with fail
      go_cut [50] (fun sx wx=>wx.heap[mb]?=some (Mo ek iv (mput (mput n1 (pb,pc) 1) (pc,pb) (-1)))∧Below w.heap.size w wx∧wx.cell? ⟨tb,0,none⟩=some (.string pa.x)∧wx.cell? ⟨tb,1,none⟩=some (.string pa.y)∧wx.cell? ⟨tb,2,none⟩=some (.string pa.z)∧wx.cell? ⟨tb,3,none⟩=some (.string pb.x)∧wx.cell? ⟨tb,4,none⟩=some (.string pb.y)∧wx.cell? ⟨tb,5,none⟩=some (.string pb.z)∧wx.cell? ⟨tb,6,none⟩=some (.string pc.x)∧wx.cell? ⟨tb,7,none⟩=some (.string pc.y)∧wx.cell? ⟨tb,8,none⟩=some (.string pc.z))
      case first =>
       go_wp2
       obtain ⟨A1,hA⟩ : ∃ A,A=((V1.alloc (.cells #[.string pb.x,.string pb.y,.string pb.z] 26)).alloc (.cells #[.string pc.x,.string pc.y,.string pc.z] 26)):=⟨_,rfl⟩
       have m_A1 : A1.heap[mb]?=some (Mo ek iv n1):=by rw [hA]; exact mp_alloc (mp_alloc m1)
       have b_A1 : Below w.heap.size w A1:=by rw [hA]; have:=b1.size; exact ba (ba b1)
       have x0 : A1.cell? ⟨V1.heap.size,0,none⟩=some (.string pb.x):=by rw [hA]; go_simp
       have x1 : A1.cell? ⟨V1.heap.size,1,none⟩=some (.string pb.y):=by rw [hA]; go_simp
       have x2 : A1.cell? ⟨V1.heap.size,2,none⟩=some (.string pb.z):=by rw [hA]; go_simp
       have y0 : A1.cell? ⟨V1.heap.size+1,0,none⟩=some (.string pc.x):=by rw [hA]; go_simp
       have y1 : A1.cell? ⟨V1.heap.size+1,1,none⟩=some (.string pc.y):=by rw [hA]; go_simp
       have y2 : A1.cell? ⟨V1.heap.size+1,2,none⟩=some (.string pc.z):=by rw [hA]; go_simp
       have a1_0 : A1.cell? ⟨tb,0,none⟩=some (.string pa.x):=by rw [hA]; exact cal (cal e1_0)
       have a1_1 : A1.cell? ⟨tb,1,none⟩=some (.string pa.y):=by rw [hA]; exact cal (cal e1_1)
       have a1_2 : A1.cell? ⟨tb,2,none⟩=some (.string pa.z):=by rw [hA]; exact cal (cal e1_2)
       have a1_3 : A1.cell? ⟨tb,3,none⟩=some (.string pb.x):=by rw [hA]; exact cal (cal e1_3)
       have a1_4 : A1.cell? ⟨tb,4,none⟩=some (.string pb.y):=by rw [hA]; exact cal (cal e1_4)
       have a1_5 : A1.cell? ⟨tb,5,none⟩=some (.string pb.z):=by rw [hA]; exact cal (cal e1_5)
       have a1_6 : A1.cell? ⟨tb,6,none⟩=some (.string pc.x):=by rw [hA]; exact cal (cal e1_6)
       have a1_7 : A1.cell? ⟨tb,7,none⟩=some (.string pc.y):=by rw [hA]; exact cal (cal e1_7)
       have a1_8 : A1.cell? ⟨tb,8,none⟩=some (.string pc.z):=by rw [hA]; exact cal (cal e1_8)
       have z_A1 : V1.heap.size+1<A1.heap.size:=World.block_lt_of_cell? A1 _ y0
       rw [← hA]
       clear hA
       obtain ⟨MA1,qA1,r1,r2,r3,r4⟩:=em_rules A1 mb n1 (pb,pc) 1 m_A1
       dsimp only at r1 r2 r3 r4
       obtain ⟨z,hz⟩ : ∃ z,z=(kget n1 (pb,pc)).getD 0:=⟨_,rfl⟩
       have hz1:=(mi1.out.le (pb,pc)).1
       have hz2:=(mi1.out.le (pb,pc)).2
       rw [← hz] at r1 r2 r3 r4 hz1 hz2
       have hz3 : z≤2000:=by omega
       have hz4 : -2000≤z:=by omega
       have hzw : IntKind.i64.wrap (z+1)=z+1:=by rw [IntKind.wrap_i64]; omega
       have HM_A1:=Lib.hid m_A1
       have N1 : V1.heap.size≠mb:=by omega
       have N2 : V1.heap.size+1≠mb:=by omega
       clear hz hz1 hz2 m_A1
       go_upto_region 21 with fail
       go_cut [50] (fun sx wx=>sx=.map (some mb)∧Turned A1 mb (Mo ek iv (mput n1 (pb,pc) 1)) wx)
       case first =>
        go_region_held3 (fun w'=>w'.cell? ⟨V1.heap.size,0,none⟩=some (.string pb.x)∧w'.cell? ⟨V1.heap.size,1,none⟩=some (.string pb.y)∧w'.cell? ⟨V1.heap.size,2,none⟩=some (.string pb.z)∧w'.cell? ⟨V1.heap.size+1,0,none⟩=some (.string pc.x)∧w'.cell? ⟨V1.heap.size+1,1,none⟩=some (.string pc.y)∧w'.cell? ⟨V1.heap.size+1,2,none⟩=some (.string pc.z))
         ((go_split_ands; refine (fun (hT : TK A1 mb _)=>⟨hT.cell x0 N1,hT.cell x1 N1,hT.cell x2 N1,hT.cell y0 N2,hT.cell y1 N2,hT.cell y2 N2⟩) ?_; repeat (first | with_reducible exact tk_start HM_A1.out | with_reducible refine tk_drew ?_ | with_reducible refine tk_set ?_)))
         (fail)
        all_goals
         go_wp2_with fail
         go_meet
         exact ⟨rfl,(by (repeat (with_reducible refine turned_drew ?_)); with_reducible refine turned_last ?_; repeat (first | with_reducible exact tk_start HM_A1.out | with_reducible refine tk_drew ?_ | with_reducible refine tk_set ?_))⟩
       case rest =>
        obtain ⟨rfl,hT⟩:=hcut
        obtain ⟨B1,hWW⟩ : ∃ x,x=wc:=⟨_,rfl⟩
        subst hWW
        have m_B1:=hT.here
        have b_B1:=hT.below b_A1 hmb1
        have x0:=hT.cell x0 N1
        have x1:=hT.cell x1 N1
        have x2:=hT.cell x2 N1
        have y0:=hT.cell y0 N2
        have y1:=hT.cell y1 N2
        have y2:=hT.cell y2 N2
        have a1_0:=hT.cell a1_0 N0
        have a1_1:=hT.cell a1_1 N0
        have a1_2:=hT.cell a1_2 N0
        have a1_3:=hT.cell a1_3 N0
        have a1_4:=hT.cell a1_4 N0
        have a1_5:=hT.cell a1_5 N0
        have a1_6:=hT.cell a1_6 N0
        have a1_7:=hT.cell a1_7 N0
        have a1_8:=hT.cell a1_8 N0
        have z_B1 : V1.heap.size+1<B1.heap.size:=World.block_lt_of_cell? B1 _ y0
        clear hT r1 r2 r3 r4 N1 N2 hz3 hz4 hzw
        obtain ⟨MB1,qB1,r1,r2,r3,r4⟩:=em_rules B1 mb (mput n1 (pb,pc) 1) (pc,pb) (-1) m_B1
        dsimp only at r1 r2 r3 r4
        obtain ⟨z,hz⟩ : ∃ z,z=(kget (mput n1 (pb,pc) 1) (pc,pb)).getD 0:=⟨_,rfl⟩
        have hz1:=(mi1.out.le1 (pb,pc) (pc,pb)).1
        have hz2:=(mi1.out.le1 (pb,pc) (pc,pb)).2
        rw [← hz] at r1 r2 r3 r4 hz1 hz2
        have hz3 : z≤2000:=by omega
        have hz4 : -2000≤z:=by omega
        rw [show z + (-1)=z - 1 by omega] at r4
        have hzw : IntKind.i64.wrap (z - 1)=z - 1:=by rw [IntKind.wrap_i64]; omega
        have HM_B1:=Lib.hid m_B1
        have N1 : V1.heap.size+1≠mb:=by omega
        have N2 : V1.heap.size≠mb:=by omega
        clear hz hz1 hz2 m_B1
        go_upto_region 22 with fail
        go_region_held3 (fun w'=>w'.cell? ⟨V1.heap.size+1,0,none⟩=some (.string pc.x)∧w'.cell? ⟨V1.heap.size+1,1,none⟩=some (.string pc.y)∧w'.cell? ⟨V1.heap.size+1,2,none⟩=some (.string pc.z)∧w'.cell? ⟨V1.heap.size,0,none⟩=some (.string pb.x)∧w'.cell? ⟨V1.heap.size,1,none⟩=some (.string pb.y)∧w'.cell? ⟨V1.heap.size,2,none⟩=some (.string pb.z))
         ((go_split_ands; refine (fun (hT : TK B1 mb _)=>⟨hT.cell y0 N1,hT.cell y1 N1,hT.cell y2 N1,hT.cell x0 N2,hT.cell x1 N2,hT.cell x2 N2⟩) ?_; repeat (first | with_reducible exact tk_start HM_B1.out | with_reducible refine tk_drew ?_ | with_reducible refine tk_set ?_)))
         (fail)
        all_goals
         go_wp2_with fail
         go_meet
         exact (fun (hT : Turned B1 mb (Mo ek iv (mput (mput n1 (pb,pc) 1) (pc,pb) (-1))) _)=>⟨hT.here,hT.below b_B1 hmb1,hT.cell a1_0 N0,hT.cell a1_1 N0,hT.cell a1_2 N0,hT.cell a1_3 N0,hT.cell a1_4 N0,hT.cell a1_5 N0,hT.cell a1_6 N0,hT.cell a1_7 N0,hT.cell a1_8 N0⟩) (by (repeat (with_reducible refine turned_drew ?_)); with_reducible refine turned_last ?_; repeat (first | with_reducible exact tk_start HM_B1.out | with_reducible refine tk_drew ?_ | with_reducible refine tk_set ?_))
      obtain ⟨m2,b2,e2_0,e2_1,e2_2,e2_3,e2_4,e2_5,e2_6,e2_7,e2_8⟩:=hcut
      obtain ⟨V2,hWW⟩ : ∃ x,x=wc:=⟨_,rfl⟩
      subst hWW
      have mi2 : Hid (MI (mput (mput n1 (pb,pc) 1) (pc,pb) (-1)) (edges (l.take i)++[(pa,pb)]++[(pb,pc)])):=Lib.hid (mi1.out.put (pb,pc))
      have hml2 : (edges (l.take i)++[(pa,pb)]++[(pb,pc)]).length≤1538:=by rw [List.length_append]; simp only [List.length_singleton]; omega
      have t2 : tb<V2.heap.size:=World.block_lt_of_cell? V2 _ e2_0
      have s2 : mb<V2.heap.size:=mp_lt m2
      clear e1_0 e1_1 e1_2 e1_3 e1_4 e1_5 e1_6 e1_7 e1_8
      obtain ⟨n2,hn2⟩ : ∃ x,x=(mput (mput n1 (pb,pc) 1) (pc,pb) (-1)):=⟨_,rfl⟩
      rw [← hn2] at m2 mi2
      clear hn2
      go_wp2
      rw [rounds_succ]
      go_upto_block 7 with fail
      go_cut [50] (fun sx wx=>wx.heap[mb]?=some (Mo ek iv (mput (mput n2 (pc,pa) 1) (pa,pc) (-1)))∧Below w.heap.size w wx∧wx.cell? ⟨tb,0,none⟩=some (.string pa.x)∧wx.cell? ⟨tb,1,none⟩=some (.string pa.y)∧wx.cell? ⟨tb,2,none⟩=some (.string pa.z)∧wx.cell? ⟨tb,3,none⟩=some (.string pb.x)∧wx.cell? ⟨tb,4,none⟩=some (.string pb.y)∧wx.cell? ⟨tb,5,none⟩=some (.string pb.z)∧wx.cell? ⟨tb,6,none⟩=some (.string pc.x)∧wx.cell? ⟨tb,7,none⟩=some (.string pc.y)∧wx.cell? ⟨tb,8,none⟩=some (.string pc.z))
      case first =>
       go_wp2
       obtain ⟨A2,hA⟩ : ∃ A,A=((V2.alloc (.cells #[.string pc.x,.string pc.y,.string pc.z] 26)).alloc (.cells #[.string pa.x,.string pa.y,.string pa.z] 26)):=⟨_,rfl⟩
       have m_A2 : A2.heap[mb]?=some (Mo ek iv n2):=by rw [hA]; exact mp_alloc (mp_alloc m2)
       have b_A2 : Below w.heap.size w A2:=by rw [hA]; have:=b2.size; exact ba (ba b2)
       have x0 : A2.cell? ⟨V2.heap.size,0,none⟩=some (.string pc.x):=by rw [hA]; go_simp
       have x1 : A2.cell? ⟨V2.heap.size,1,none⟩=some (.string pc.y):=by rw [hA]; go_simp
       have x2 : A2.cell? ⟨V2.heap.size,2,none⟩=some (.string pc.z):=by rw [hA]; go_simp
       have y0 : A2.cell? ⟨V2.heap.size+1,0,none⟩=some (.string pa.x):=by rw [hA]; go_simp
       have y1 : A2.cell? ⟨V2.heap.size+1,1,none⟩=some (.string pa.y):=by rw [hA]; go_simp
       have y2 : A2.cell? ⟨V2.heap.size+1,2,none⟩=some (.string pa.z):=by rw [hA]; go_simp
       have a2_0 : A2.cell? ⟨tb,0,none⟩=some (.string pa.x):=by rw [hA]; exact cal (cal e2_0)
       have a2_1 : A2.cell? ⟨tb,1,none⟩=some (.string pa.y):=by rw [hA]; exact cal (cal e2_1)
       have a2_2 : A2.cell? ⟨tb,2,none⟩=some (.string pa.z):=by rw [hA]; exact cal (cal e2_2)
       have a2_3 : A2.cell? ⟨tb,3,none⟩=some (.string pb.x):=by rw [hA]; exact cal (cal e2_3)
       have a2_4 : A2.cell? ⟨tb,4,none⟩=some (.string pb.y):=by rw [hA]; exact cal (cal e2_4)
       have a2_5 : A2.cell? ⟨tb,5,none⟩=some (.string pb.z):=by rw [hA]; exact cal (cal e2_5)
       have a2_6 : A2.cell? ⟨tb,6,none⟩=some (.string pc.x):=by rw [hA]; exact cal (cal e2_6)
       have a2_7 : A2.cell? ⟨tb,7,none⟩=some (.string pc.y):=by rw [hA]; exact cal (cal e2_7)
       have a2_8 : A2.cell? ⟨tb,8,none⟩=some (.string pc.z):=by rw [hA]; exact cal (cal e2_8)
       have z_A2 : V2.heap.size+1<A2.heap.size:=World.block_lt_of_cell? A2 _ y0
       rw [← hA]
       clear hA
       obtain ⟨MA2,qA2,r1,r2,r3,r4⟩:=em_rules A2 mb n2 (pc,pa) 1 m_A2
       dsimp only at r1 r2 r3 r4
       obtain ⟨z,hz⟩ : ∃ z,z=(kget n2 (pc,pa)).getD 0:=⟨_,rfl⟩
       have hz1:=(mi2.out.le (pc,pa)).1
       have hz2:=(mi2.out.le (pc,pa)).2
       rw [← hz] at r1 r2 r3 r4 hz1 hz2
       have hz3 : z≤2000:=by omega
       have hz4 : -2000≤z:=by omega
       have hzw : IntKind.i64.wrap (z+1)=z+1:=by rw [IntKind.wrap_i64]; omega
       have HM_A2:=Lib.hid m_A2
       have N1 : V2.heap.size≠mb:=by omega
       have N2 : V2.heap.size+1≠mb:=by omega
       clear hz hz1 hz2 m_A2
       go_upto_region 21 with fail
       go_cut [50] (fun sx wx=>sx=.map (some mb)∧Turned A2 mb (Mo ek iv (mput n2 (pc,pa) 1)) wx)
       case first =>
        go_region_held3 (fun w'=>w'.cell? ⟨V2.heap.size,0,none⟩=some (.string pc.x)∧w'.cell? ⟨V2.heap.size,1,none⟩=some (.string pc.y)∧w'.cell? ⟨V2.heap.size,2,none⟩=some (.string pc.z)∧w'.cell? ⟨V2.heap.size+1,0,none⟩=some (.string pa.x)∧w'.cell? ⟨V2.heap.size+1,1,none⟩=some (.string pa.y)∧w'.cell? ⟨V2.heap.size+1,2,none⟩=some (.string pa.z))
         ((go_split_ands; refine (fun (hT : TK A2 mb _)=>⟨hT.cell x0 N1,hT.cell x1 N1,hT.cell x2 N1,hT.cell y0 N2,hT.cell y1 N2,hT.cell y2 N2⟩) ?_; repeat (first | with_reducible exact tk_start HM_A2.out | with_reducible refine tk_drew ?_ | with_reducible refine tk_set ?_)))
         (fail)
        all_goals
         go_wp2_with fail
         go_meet
         exact ⟨rfl,(by (repeat (with_reducible refine turned_drew ?_)); with_reducible refine turned_last ?_; repeat (first | with_reducible exact tk_start HM_A2.out | with_reducible refine tk_drew ?_ | with_reducible refine tk_set ?_))⟩
       case rest =>
        obtain ⟨rfl,hT⟩:=hcut
        obtain ⟨B2,hWW⟩ : ∃ x,x=wc:=⟨_,rfl⟩
        subst hWW
        have m_B2:=hT.here
        have b_B2:=hT.below b_A2 hmb1
        have x0:=hT.cell x0 N1
        have x1:=hT.cell x1 N1
        have x2:=hT.cell x2 N1
        have y0:=hT.cell y0 N2
        have y1:=hT.cell y1 N2
        have y2:=hT.cell y2 N2
        have a2_0:=hT.cell a2_0 N0
        have a2_1:=hT.cell a2_1 N0
        have a2_2:=hT.cell a2_2 N0
        have a2_3:=hT.cell a2_3 N0
        have a2_4:=hT.cell a2_4 N0
        have a2_5:=hT.cell a2_5 N0
        have a2_6:=hT.cell a2_6 N0
        have a2_7:=hT.cell a2_7 N0
        have a2_8:=hT.cell a2_8 N0
        have z_B2 : V2.heap.size+1<B2.heap.size:=World.block_lt_of_cell? B2 _ y0
        clear hT r1 r2 r3 r4 N1 N2 hz3 hz4 hzw
        obtain ⟨MB2,qB2,r1,r2,r3,r4⟩:=em_rules B2 mb (mput n2 (pc,pa) 1) (pa,pc) (-1) m_B2
        dsimp only at r1 r2 r3 r4
        obtain ⟨z,hz⟩ : ∃ z,z=(kget (mput n2 (pc,pa) 1) (pa,pc)).getD 0:=⟨_,rfl⟩
        have hz1:=(mi2.out.le1 (pc,pa) (pa,pc)).1
        have hz2:=(mi2.out.le1 (pc,pa) (pa,pc)).2
        rw [← hz] at r1 r2 r3 r4 hz1 hz2
        have hz3 : z≤2000:=by omega
        have hz4 : -2000≤z:=by omega
        rw [show z + (-1)=z - 1 by omega] at r4
        have hzw : IntKind.i64.wrap (z - 1)=z - 1:=by rw [IntKind.wrap_i64]; omega
        have HM_B2:=Lib.hid m_B2
        have N1 : V2.heap.size+1≠mb:=by omega
        have N2 : V2.heap.size≠mb:=by omega
        clear hz hz1 hz2 m_B2
        go_upto_region 22 with fail
        go_region_held3 (fun w'=>w'.cell? ⟨V2.heap.size+1,0,none⟩=some (.string pa.x)∧w'.cell? ⟨V2.heap.size+1,1,none⟩=some (.string pa.y)∧w'.cell? ⟨V2.heap.size+1,2,none⟩=some (.string pa.z)∧w'.cell? ⟨V2.heap.size,0,none⟩=some (.string pc.x)∧w'.cell? ⟨V2.heap.size,1,none⟩=some (.string pc.y)∧w'.cell? ⟨V2.heap.size,2,none⟩=some (.string pc.z))
         ((go_split_ands; refine (fun (hT : TK B2 mb _)=>⟨hT.cell y0 N1,hT.cell y1 N1,hT.cell y2 N1,hT.cell x0 N2,hT.cell x1 N2,hT.cell x2 N2⟩) ?_; repeat (first | with_reducible exact tk_start HM_B2.out | with_reducible refine tk_drew ?_ | with_reducible refine tk_set ?_)))
         (fail)
        all_goals
         go_wp2_with fail
         go_meet
         exact (fun (hT : Turned B2 mb (Mo ek iv (mput (mput n2 (pc,pa) 1) (pa,pc) (-1))) _)=>⟨hT.here,hT.below b_B2 hmb1,hT.cell a2_0 N0,hT.cell a2_1 N0,hT.cell a2_2 N0,hT.cell a2_3 N0,hT.cell a2_4 N0,hT.cell a2_5 N0,hT.cell a2_6 N0,hT.cell a2_7 N0,hT.cell a2_8 N0⟩) (by (repeat (with_reducible refine turned_drew ?_)); with_reducible refine turned_last ?_; repeat (first | with_reducible exact tk_start HM_B2.out | with_reducible refine tk_drew ?_ | with_reducible refine tk_set ?_))
      obtain ⟨m3,b3,e3_0,e3_1,e3_2,e3_3,e3_4,e3_5,e3_6,e3_7,e3_8⟩:=hcut
      obtain ⟨V3,hWW⟩ : ∃ x,x=wc:=⟨_,rfl⟩
      subst hWW
      have mi3 : Hid (MI (mput (mput n2 (pc,pa) 1) (pa,pc) (-1)) (edges (l.take i)++[(pa,pb)]++[(pb,pc)]++[(pc,pa)])):=Lib.hid (mi2.out.put (pc,pa))
      have hml3 : (edges (l.take i)++[(pa,pb)]++[(pb,pc)]++[(pc,pa)]).length≤1539:=by rw [List.length_append]; simp only [List.length_singleton]; omega
      have t3 : tb<V3.heap.size:=World.block_lt_of_cell? V3 _ e3_0
      have s3 : mb<V3.heap.size:=mp_lt m3
      clear e2_0 e2_1 e2_2 e2_3 e2_4 e2_5 e2_6 e2_7 e2_8
      obtain ⟨n3,hn3⟩ : ∃ x,x=(mput (mput n2 (pc,pa) 1) (pa,pc) (-1)):=⟨_,rfl⟩
      rw [← hn3] at m3 mi3
      clear hn3
      go_wp2
      rw [rounds_succ]
      go_wp2
      go_roundw
      case rel=>exact ⟨i+1,by omega,by go_num,⟨n3,m3,Lib.hid (by rw [HE.out]; exact mi3.out)⟩,b3⟩
      case measure=>simp [intOf]; omega
     ·obtain rfl : i=k:=by omega
      rw [HTE.out] at hmi
      have HMI:=Lib.hid hmi.out
      clear hmi
      have hrn:=mo_range (P:=Tryz.prog) under_em hm
      have hrs:=rg_start (f:=ek) (g:=iv) hm
      obtain ⟨r,hr⟩ : ∃ r,r=wr.heap.size:=⟨_,rfl⟩
      have hr1 : w.heap.size≤r:=by omega
      rw [← hr] at hrn hrs
      have HR:=Lib.hid hr
      have hb3 : Below w.heap.size w (wr.alloc (.mapIter (some mb) m.length #[] m.length)):=ba hb2
      clear hr hm
      go_wp2
      obtain ⟨wi,hwi⟩ : ∃ x,x=wr:=⟨_,rfl⟩
      subst hwi
      go_loopw [14] (fun sx wr=>(∃ seen,Rg wr r mb ek iv m seen∧Hid (∀ j p,m[j]?=some p→seen.contains j=true→¬ (p.2≠0∧p.1.1≠p.1.2)))∧Below w.heap.size w wr) (fun _ wr=>rgLeft m ek iv (wr.iterSeen r))
      case atStart=>exact ⟨⟨#[],hrs,Lib.hid (fun j p _ h=>by simp at h)⟩,hb3⟩
      case round =>
       obtain ⟨⟨seen,hrg,hsn⟩,hb4⟩:=hrel
       have hsz4:=hb4.size
       have HSN:=Lib.hid hsn.out
       clear hsn
       rcases rg_next (P:=Tryz.prog) hrg 0 with ⟨hall,hrun⟩ | ⟨j,⟨⟨sa,sb⟩,u⟩,w',hp,hsj,hrun,hrg2,hlt3,⟨w1,hw1,hw2⟩,hen⟩
       ·have E : Hid (chkC l=0):=Lib.hid (HOK.out HD.out (HMI.out.not_open (fun p hp=>by
         obtain ⟨j,hj⟩:=List.getElem?_of_mem hp
         exact HSN.out j p hj (hall j (List.getElem?_eq_some_iff.1 hj).1))))
        clear hall hrg HOK HOPEN HARG HCL HG2
        go_wp2
        go_ret
        exact ⟨ret_i64 E.out.symm,bel⟩
       ·have hb5 : Below w.heap.size w w':=by
         rw [hw2]
         rcases hw1 with rfl | rfl
         ·exact below_setBlock hb4 hr1 _
         ·exact below_setBlock (bd hb4) hr1 _
        have HME:=Lib.hid hlt3
        have HGr:=Lib.hid hrg
        have HSN2 : Hid (¬ (u≠0∧sa≠sb)→∀ j' p,m[j']?=some p→(seen.push j).contains j'=true→¬ (p.2≠0∧p.1.1≠p.1.2)):=Lib.hid (fun hn j' p h1 h2=>by
         rw [contains_push] at h2
         rcases Bool.or_eq_true_iff.1 h2 with h3 | h3
         ·exact HSN.out j' p h1 h3
         ·have e : j'=j:=by simpa using h3
          rw [e,hp] at h1
          cases h1
          exact hn)
        have HBAD : Hid (u≠0∧sa≠sb→chkC l=17):=Lib.hid (fun hb=>HOPEN.out HD.out (HMI.out.open_iff.2 ⟨_,List.mem_of_getElem? hp,hb⟩))
        have HG3:=Lib.hid hrg2
        have nq : ∀ w,(binOp .neq 26 (.agg #[.string sa.x,.string sa.y,.string sa.z]) (.agg #[.string sb.x,.string sb.y,.string sb.z])).run Tryz.prog w=.ok (.bool !(decide (sa=sb))) w:=fun w=>by
         have:=neq_vec sa.x sa.y sa.z sb.x sb.y sb.z w
         rw [sv_eq] at this
         exact this
        rw [ek_eq] at hrun hen
        unfold iv at hrun hen
        dsimp only at hrun hen
        have hsz5:=hb5.size
        have hzr : w.heap.size≤w'.heap.size:=hsz5
        clear hp hsj hlt3 hw1 hw2 HSN hrg hrg2 HOK HOPEN HARG HCL HG2
        by_cases hu : u=0
        ·subst hu
         have E:=Lib.hid (HSN2.out (fun h=>h.1 rfl))
         clear HSN2 HBAD
         go_wp2
         go_roundw
         case rel=>exact ⟨⟨_,Rg_alloc HG3.out,E⟩,bel⟩
         case measure=>rw [rg_seen (Rg_alloc HG3.out),rg_seen HGr.out]; exact HME.out
        ·by_cases hs : sa=sb
         ·have E:=Lib.hid (HSN2.out (fun h=>h.2 hs))
          have hs2 : decide (sa=sb)=true:=by simp [hs]
          clear HSN2 HBAD hs
          go_wp2
          go_roundw
          case rel=>exact ⟨⟨_,Rg_alloc HG3.out,E⟩,bel⟩
          case measure=>rw [rg_seen (Rg_alloc HG3.out),rg_seen HGr.out]; exact HME.out
         ·have E:=Lib.hid (HBAD.out ⟨hu,hs⟩)
          have hs2 : decide (sa=sb)=false:=by simp [hs]
          clear HSN2 HBAD hs
          go_wp2
          go_ret
          exact ⟨ret_i64 E.out.symm,bel⟩
end Go.Proofs.YtopfedbhkfdjkaaGreatDoor
