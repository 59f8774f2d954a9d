/- garboardref12: valid, runs. -/
import Derived.Test.YtbnbaokamccmjaaGreatDoorEH
set_option linter.unusedVariables false
set_option linter.unusedSimpArgs false
namespace Go.Proofs.YtbnbaokamccmjaaGreatDoor
open Go Go.RowKit
theorem tle_at {l : List TV} {m k : Nat} {t : TV} (h : tle l m) (hg : l[k]?=some t) : t.a.le m∧t.b.le m∧t.c.le m:=h t (List.mem_of_getElem? hg)
set_option maxHeartbeats 4000000 in
set_option maxRecDepth 100000 in
theorem rvalid_walk (v : Value) (l : List TV) (w : World) (hv : Ts w v l) (hs : tle l 10000000) :
  Calls Tryz.prog 83 #[v] w fun e w'=>e=.returned (.bool (l.all tvalid))∧Below w.heap.size w w':=by
 obtain ⟨A,cap,rfl,hn,hc,hcell⟩:=hv.open
 have HCL:=Lib.hid hcell
 have HTE:=Lib.hid (show l.take l.length=l from List.take_length)
 have HS:=Lib.hid hs
 obtain ⟨n,hn0⟩ : ∃ n,n=l.length:=⟨_,rfl⟩
 have HG:=Lib.hid (fun k (hk : k<n)=>(show ∃ s,l[k]?=some s from ⟨_,List.getElem?_eq_getElem (by rw [← hn0]; exact hk)⟩))
 rw [← hn0] at hn HCL HTE ⊢
 clear hn0 hv hcell hs
 go_enter Tryz.func83,Tryz.ntmps83
 go_wp2
 go_loopw [3] (fun ii wr=>∃ k : Nat,k≤n∧ii=.int .i64 k∧Hid ((l.take k).all tvalid=true)∧Below w.heap.size w wr) (fun ii _=>n - (intOf ii).toNat)
 case atStart=>exact ⟨0,Nat.zero_le _,rfl,Lib.hid rfl,Below.refl _ _⟩
 case round =>
  obtain ⟨k,hk,rfl,hd,hb⟩:=hrel
  by_cases hlt : k<n
  ·obtain ⟨t,hg⟩:=HG.out k hlt
   obtain ⟨b,off,rfl,hcl⟩:=HCL.out (by omega)
   obtain ⟨c0,c1,c2,c3,c4,c5,c6,c7,c8⟩:=ts_nine (fun i u hu=>cell_below hb (hcl _ _ hg i u hu))
   obtain ⟨l0,l1,l2⟩:=tle_at HS.out hg
   have HV0:=Lib.hid (fun w=>wValid_walk t.a l0 w)
   have HV1:=Lib.hid (fun w=>wValid_walk t.b l1 w)
   have HV2:=Lib.hid (fun w=>wValid_walk t.c l2 w)
   have HT : Hid ((isVec t.a && isVec t.b && isVec t.c)=true→(l.take (k+1)).all tvalid=true):=Lib.hid (fun h=>take_valid hg hd.out h)
   have HF : Hid ((isVec t.a && isVec t.b && isVec t.c)=false→l.all tvalid=false):=Lib.hid (fun h=>List.all_eq_false.2 ⟨t,List.mem_of_getElem? hg,by unfold tvalid; rw [h]; decide⟩)
   have hk0 : (0 : Int)≤(k : Int):=by omega
   have hkn : (k : Int)<(n : Int):=by omega
   clear hg hcl hd l0 l1 l2
   unfold SV.val at HV0 HV1 HV2
   generalize t.a.x=x0 at *
   generalize t.a.y=y0 at *
   generalize t.a.z=z0 at *
   generalize t.b.x=x1 at *
   generalize t.b.y=y1 at *
   generalize t.b.z=z1 at *
   generalize t.c.x=x2 at *
   generalize t.c.y=y2 at *
   generalize t.c.z=z2 at *
   generalize isVec t.a=r0 at *
   generalize isVec t.b=r1 at *
   generalize isVec t.c=r2 at *
   go_wp2
   refine wp_loop_rounds 4 ?_
   rw [rounds_succ]
   go_wp2_with fail
   refine (HV0.out _).mono ?_
   rintro e u1_ ⟨rfl,g1⟩
   have b1 : Below w.heap.size w u1_:=bn hb g1
   have c3:=cell_below g1 c3
   have c4:=cell_below g1 c4
   have c5:=cell_below g1 c5
   have c6:=cell_below g1 c6
   have c7:=cell_below g1 c7
   have c8:=cell_below g1 c8
   clear g1
   cases r0
   ·have E:=Lib.hid (HF.out (by simp))
    clear HT HF
    go_wp2
    go_ret
    exact ⟨by rw [E.out]; rfl,b1⟩
   ·skip
    go_wp2
    rw [rounds_succ]
    go_wp2_with fail
    refine (HV1.out _).mono ?_
    rintro e u2_ ⟨rfl,g2⟩
    have b2 : Below w.heap.size w u2_:=bn b1 g2
    have c6:=cell_below g2 c6
    have c7:=cell_below g2 c7
    have c8:=cell_below g2 c8
    clear g2
    cases r1
    ·have E:=Lib.hid (HF.out (by simp))
     clear HT HF
     go_wp2
     go_ret
     exact ⟨by rw [E.out]; rfl,b2⟩
    ·skip
     go_wp2
     rw [rounds_succ]
     go_wp2_with fail
     refine (HV2.out _).mono ?_
     rintro e u3_ ⟨rfl,g3⟩
     have b3 : Below w.heap.size w u3_:=bn b2 g3
     clear g3
     cases r2
     ·have E:=Lib.hid (HF.out (by simp))
      clear HT HF
      go_wp2
      go_ret
      exact ⟨by rw [E.out]; rfl,b3⟩
     ·skip
      go_wp2
      rw [rounds_succ]
      have E:=Lib.hid (HT.out rfl)
      clear HT HF
      go_wp2
      go_roundw
      case rel=>exact ⟨k+1,by omega,by go_num,E,b3⟩
      case measure=>simp [intOf]; omega
  ·obtain rfl : k=n:=by omega
   rw [HTE.out] at hd
   have E:=Lib.hid hd.out
   clear hd
   go_wp2
   go_ret
   exact ⟨by rw [E.out]; rfl,hb⟩
def runsL (l : List TV) (a b : SV) : Nat:=(edges l).countP fun e=>decide (e.1=a) && decide (e.2=b)
theorem runsL_step {l : List TV} {k : Nat} {t : TV} (hk : l[k]?=some t) (a b : SV) : runsL (l.take (k+1)) a b=runsL (l.take k) a b + (if (decide (t.a=a) && decide (t.b=b))=true then 1 else 0) + (if (decide (t.b=a) && decide (t.c=b))=true then 1 else 0) + (if (decide (t.c=a) && decide (t.a=b))=true then 1 else 0):=by
 unfold runsL
 rw [take_edges hk,List.countP_append,List.countP_append,List.countP_append,List.countP_singleton,List.countP_singleton,List.countP_singleton]
theorem runsL_le (l : List TV) (a b : SV) : runsL l a b≤3 * l.length:=by
 unfold runsL
 refine Nat.le_trans List.countP_le_length ?_
 unfold edges
 rw [List.length_flatMap]
 induction l with
 | nil=>simp
 | cons t l ih=>simp only [List.map_cons,List.sum_cons,List.length_cons] at *; have : (Tr.edges t).length=3:=rfl; omega
set_option maxHeartbeats 4000000 in
set_option maxRecDepth 100000 in
theorem rruns_walk (v : Value) (l : List TV) (s t : SV) (w : World) (hv : Ts w v l) (hm : l.length≤1000) :
  Calls Tryz.prog 84 #[v,s.val,t.val] w fun e w'=>e=.returned (.int .i64 (runsL l s t : Nat))∧Below w.heap.size w w':=by
 obtain ⟨A,cap,rfl,hn,hc,hcell⟩:=hv.open
 have HCL:=Lib.hid hcell
 have HTE:=Lib.hid (show l.take l.length=l from List.take_length)
 have HLE:=Lib.hid (fun k=>runsL_le (l.take k) s t)
 obtain ⟨n,hn0⟩ : ∃ n,n=l.length:=⟨_,rfl⟩
 have HLE2 : Hid (∀ k,runsL (l.take k) s t≤3000):=Lib.hid (fun k=>Nat.le_trans (HLE.out k) (by rw [List.length_take]; omega))
 have HG:=Lib.hid (fun k (hk : k<n)=>(show ∃ s,l[k]?=some s from ⟨_,List.getElem?_eq_getElem (by rw [← hn0]; exact hk)⟩))
 have HST:=Lib.hid (fun (k : Nat) (t' : TV) (h : l[k]?=some t')=>runsL_step h s t)
 rw [← hn0] at hn HCL HTE hm ⊢
 clear hn0 hv hcell HLE
 obtain ⟨R,hR⟩ : ∃ R : Nat→Nat,R=fun k=>runsL (l.take k) s t:=⟨_,rfl⟩
 have HR0 : Hid (R 0=0):=Lib.hid (by rw [hR]; rfl)
 have HRN : Hid (R n=runsL l s t):=Lib.hid (by rw [hR]; show runsL (l.take n) s t=_; rw [HTE.out])
 have HRS : Hid (∀ (k : Nat) (t' : TV),l[k]?=some t'→R (k+1)=R k + (if (decide (t'.a=s) && decide (t'.b=t))=true then 1 else 0) + (if (decide (t'.b=s) && decide (t'.c=t))=true then 1 else 0) + (if (decide (t'.c=s) && decide (t'.a=t))=true then 1 else 0)):=Lib.hid (by rw [hR]; exact HST.out)
 have HRL : Hid (∀ k,R k≤3000):=Lib.hid (by rw [hR]; exact HLE2.out)
 clear hR HST HLE2 HTE
 unfold SV.val
 go_enter Tryz.func84,Tryz.ntmps84
 go_wp2
 have HBX : Hid (Bk ((w.alloc (.cells #[.string s.x,.string s.y,.string s.z] 25)).alloc (.cells #[.string t.x,.string t.y,.string t.z] 25)) w.heap.size [.string s.x,.string s.y,.string s.z]):=Lib.hid bkk
 have HBY : Hid (Bk ((w.alloc (.cells #[.string s.x,.string s.y,.string s.z] 25)).alloc (.cells #[.string t.x,.string t.y,.string t.z] 25)) (w.heap.size+1) [.string t.x,.string t.y,.string t.z]):=Lib.hid bkk
 obtain ⟨W,hW⟩ : ∃ W,W=((w.alloc (.cells #[.string s.x,.string s.y,.string s.z] 25)).alloc (.cells #[.string t.x,.string t.y,.string t.z] 25)):=⟨_,rfl⟩
 have hbW : Below w.heap.size w W:=by rw [hW]; exact bel
 rw [← hW] at HBX HBY ⊢
 clear hW
 go_loopw [7,8] (fun cv ii wr=>∃ k : Nat,k≤n∧ii=.int .i64 k∧cv=.int .i64 (R k : Nat)∧Below W.heap.size W wr) (fun _ ii _=>n - (intOf ii).toNat)
 case atStart=>exact ⟨0,Nat.zero_le _,rfl,by rw [HR0.out]; rfl,Below.refl _ _⟩
 case round =>
  obtain ⟨k,hk,rfl,rfl,hb⟩:=hrel
  by_cases hlt : k<n
  ·obtain ⟨t',hg⟩:=HG.out k hlt
   obtain ⟨b,off,rfl,hcl⟩:=HCL.out (by omega)
   have HS:=Lib.hid (HRS.out k t' hg)
   have hr0:=HRL.out k
   have HNC:=Lib.hid (ts_nine (fun i u hu=>cell_below (bn hbW hb) (hcl _ _ hg i u hu)))
   have hk0 : (0 : Int)≤(k : Int):=by omega
   have hkn : (k : Int)<(n : Int):=by omega
   clear hg hcl
   have q : ∀ (p r : SV) w,(binOp .eql 25 (.agg #[.string p.x,.string p.y,.string p.z]) (.agg #[.string r.x,.string r.y,.string r.z])).run Tryz.prog w=.ok (.bool (decide (p=r))) w:=fun p r w=>by rw [eql_vec,sv_eq]
   have q0:=q t'.a s
   have q1:=q t'.b s
   have q2:=q t'.c s
   have p0:=q t'.b t
   have p1:=q t'.c t
   have p2:=q t'.a t
   clear q HRS
   generalize decide (t'.a=s)=u0 at *
   generalize decide (t'.b=s)=u1 at *
   generalize decide (t'.c=s)=u2 at *
   generalize decide (t'.b=t)=v0 at *
   generalize decide (t'.c=t)=v1 at *
   generalize decide (t'.a=t)=v2 at *
   obtain ⟨f0,hf0⟩ : ∃ f : Nat,f=(if (u0 && v0)=true then 1 else 0):=⟨_,rfl⟩
   obtain ⟨f1,hf1⟩ : ∃ f : Nat,f=(if (u1 && v1)=true then 1 else 0):=⟨_,rfl⟩
   obtain ⟨f2,hf2⟩ : ∃ f : Nat,f=(if (u2 && v2)=true then 1 else 0):=⟨_,rfl⟩
   rw [← hf0,← hf1,← hf2] at HS
   have F0:=Lib.hid hf0
   have F1:=Lib.hid hf1
   have F2:=Lib.hid hf2
   have l0 : f0≤1:=by rw [hf0]; split<;>omega
   have l1 : f1≤1:=by rw [hf1]; split<;>omega
   have l2 : f2≤1:=by rw [hf2]; split<;>omega
   clear hf0 hf1 hf2
   generalize R k=rk at *
   generalize t'.a.x=x0 at *
   generalize t'.a.y=y0 at *
   generalize t'.a.z=z0 at *
   generalize t'.b.x=x1 at *
   generalize t'.b.y=y1 at *
   generalize t'.b.z=z1 at *
   generalize t'.c.x=x2 at *
   generalize t'.c.y=y2 at *
   generalize t'.c.z=z2 at *
   generalize s.x=sx at *
   generalize s.y=sy at *
   generalize s.z=sz at *
   generalize t.x=tx at *
   generalize t.y=ty at *
   generalize t.z=tz at *
   go_wp2
   go_loopw [7,9] (fun cv jj wx=>∃ j c : Nat,j≤3∧jj=.int .i64 j∧cv=.int .i64 c∧Hid ((j=0→c=rk)∧(j=1→c=rk+f0)∧(j=2→c=rk+f0+f1)∧(j=3→c=rk+f0+f1+f2))∧Below wr.heap.size wr wx) (fun _ jj _=>3 - (intOf jj).toNat)
   case atStart=>exact ⟨0,rk,by omega,rfl,rfl,Lib.hid ⟨fun _=>rfl,fun h=>by omega,fun h=>by omega,fun h=>by omega⟩,Below.refl _ _⟩
   case round =>
    obtain ⟨j,c,hj,rfl,rfl,hc2,hbx⟩:=hrel
    obtain ⟨⟨c0,c1,c2,c3,c4,c5,c6,c7,c8⟩, -⟩:=And.intro HNC.out trivial
    have c0:=cell_below hbx c0
    have c1:=cell_below hbx c1
    have c2:=cell_below hbx c2
    have c3:=cell_below hbx c3
    have c4:=cell_below hbx c4
    have c5:=cell_below hbx c5
    have c6:=cell_below hbx c6
    have c7:=cell_below hbx c7
    have c8:=cell_below hbx c8
    obtain ⟨d0,d1,d2, -⟩:=(HBX.out.below (bn hb hbx)).c3
    obtain ⟨e0,e1,e2, -⟩:=(HBY.out.below (bn hb hbx)).c3
    have hw1 : IntKind.i64.wrap ((c : Int)+1)=(c : Int)+1:=by
     have h9 : c≤4000:=by
      have:=hc2.out
      omega
     rw [IntKind.wrap_i64]
     omega
    rcases (show j=0∨j=1∨j=2∨j=3 by omega) with rfl | rfl | rfl | rfl
    ·skip
     cases u0
     ·go_wp2_with fail
      go_quiet (fail)
      go_wp2
      go_roundw
      case rel=>exact ⟨1,c,by omega,rfl,by first | rfl | go_num,Lib.hid ⟨fun h=>by omega,fun _=>by have h1:=F0.out; have h2:=hc2.out.1 (by simp); simp at h1; omega,fun h=>by omega,fun h=>by omega⟩,by first | exact hbx | exact bd hbx | exact below_drewN hbx _⟩
      case measure=>simp [intOf]
     ·cases v0
      ·go_wp2_with fail
       go_quiet (fail)
       go_wp2
       go_roundw
       case rel=>exact ⟨1,c,by omega,rfl,by first | rfl | go_num,Lib.hid ⟨fun h=>by omega,fun _=>by have h1:=F0.out; have h2:=hc2.out.1 (by simp); simp at h1; omega,fun h=>by omega,fun h=>by omega⟩,by first | exact hbx | exact bd hbx | exact below_drewN hbx _⟩
       case measure=>simp [intOf]
      ·go_wp2_with fail
       go_quiet (fail)
       go_wp2
       go_roundw
       case rel=>exact ⟨1,(c+1),by omega,rfl,by first | rfl | go_num,Lib.hid ⟨fun h=>by omega,fun _=>by have h1:=F0.out; have h2:=hc2.out.1 (by simp); simp at h1; omega,fun h=>by omega,fun h=>by omega⟩,by first | exact hbx | exact bd hbx | exact below_drewN hbx _⟩
       case measure=>simp [intOf]
    ·skip
     cases u1
     ·go_wp2_with fail
      go_quiet (fail)
      go_wp2
      go_roundw
      case rel=>exact ⟨2,c,by omega,rfl,by first | rfl | go_num,Lib.hid ⟨fun h=>by omega,fun h=>by omega,fun _=>by have h1:=F1.out; have h2:=hc2.out.2.1 (by simp); simp at h1; omega,fun h=>by omega⟩,by first | exact hbx | exact bd hbx | exact below_drewN hbx _⟩
      case measure=>simp [intOf]
     ·cases v1
      ·go_wp2_with fail
       go_quiet (fail)
       go_wp2
       go_roundw
       case rel=>exact ⟨2,c,by omega,rfl,by first | rfl | go_num,Lib.hid ⟨fun h=>by omega,fun h=>by omega,fun _=>by have h1:=F1.out; have h2:=hc2.out.2.1 (by simp); simp at h1; omega,fun h=>by omega⟩,by first | exact hbx | exact bd hbx | exact below_drewN hbx _⟩
       case measure=>simp [intOf]
      ·go_wp2_with fail
       go_quiet (fail)
       go_wp2
       go_roundw
       case rel=>exact ⟨2,(c+1),by omega,rfl,by first | rfl | go_num,Lib.hid ⟨fun h=>by omega,fun h=>by omega,fun _=>by have h1:=F1.out; have h2:=hc2.out.2.1 (by simp); simp at h1; omega,fun h=>by omega⟩,by first | exact hbx | exact bd hbx | exact below_drewN hbx _⟩
       case measure=>simp [intOf]
    ·skip
     cases u2
     ·go_wp2_with fail
      go_quiet (fail)
      go_wp2
      go_roundw
      case rel=>exact ⟨3,c,by omega,rfl,by first | rfl | go_num,Lib.hid ⟨fun h=>by omega,fun h=>by omega,fun h=>by omega,fun _=>by have h1:=F2.out; have h2:=hc2.out.2.2.1 (by simp); simp at h1; omega⟩,by first | exact hbx | exact bd hbx | exact below_drewN hbx _⟩
      case measure=>simp [intOf]
     ·cases v2
      ·go_wp2_with fail
       go_quiet (fail)
       go_wp2
       go_roundw
       case rel=>exact ⟨3,c,by omega,rfl,by first | rfl | go_num,Lib.hid ⟨fun h=>by omega,fun h=>by omega,fun h=>by omega,fun _=>by have h1:=F2.out; have h2:=hc2.out.2.2.1 (by simp); simp at h1; omega⟩,by first | exact hbx | exact bd hbx | exact below_drewN hbx _⟩
       case measure=>simp [intOf]
      ·go_wp2_with fail
       go_quiet (fail)
       go_wp2
       go_roundw
       case rel=>exact ⟨3,(c+1),by omega,rfl,by first | rfl | go_num,Lib.hid ⟨fun h=>by omega,fun h=>by omega,fun h=>by omega,fun _=>by have h1:=F2.out; have h2:=hc2.out.2.2.1 (by simp); simp at h1; omega⟩,by first | exact hbx | exact bd hbx | exact below_drewN hbx _⟩
       case measure=>simp [intOf]
    ·have E : Hid (c=R (k+1)):=Lib.hid (by rw [HS.out]; exact hc2.out.2.2.2 (by simp))
     go_wp2
     go_roundw
     case rel=>exact ⟨k+1,by omega,by go_num,by rw [E.out],bn hb hbx⟩
     case measure=>simp [intOf]; omega
  ·obtain rfl : k=n:=by omega
   go_wp2
   go_ret
   exact ⟨by rw [HRN.out]; rfl,bn hbW hb⟩
end Go.Proofs.YtbnbaokamccmjaaGreatDoor

/- garboardref12: Check. -/
namespace Go.Proofs.YtbnbaokamccmjaaGreatDoor
open Go Go.RowKit
theorem runsL_count (l : List TV) (a b : SV) : runsL l a b=(edges l).count (a,b):=by
 unfold runsL List.count
 apply List.countP_congr
 intro e _
 obtain ⟨x,y⟩:=e
 by_cases h1 : x=a<;>by_cases h2 : y=b<;>simp [h1,h2]
def badE (l : List TV) (a b : SV) : Bool := !(decide (a=b)) && !(decide (runsL l a b=runsL l b a))
theorem badE_iff (l : List TV) (a b : SV) : badE l a b=(decide (a≠b) && decide (cnt (edges l) (a,b)≠0)):=by
 unfold badE cnt
 rw [runsL_count,runsL_count]
 by_cases h1 : a=b
 ·simp [h1]
 ·simp only [h1,decide_false,Bool.not_false,Bool.true_and,ne_eq,not_false_eq_true,decide_true]
  by_cases h2 : (edges l).count (a,b)=(edges l).count (b,a)
  ·simp [h2]
  ·have : ¬ ((edges l).count (a,b) : Int) - ((edges l).count (b,a) : Int)=0:=by omega
   simp [h2,this]
theorem open_bad {l : List TV} {a b : SV} (h : (a,b) ∈ edges l) (hb : badE l a b=true) : openT l=true:=by
 unfold openT openE
 rw [List.any_eq_true]
 refine ⟨(a,b),h, ?_⟩
 rw [badE_iff] at hb
 exact hb
theorem open_none {l : List TV} (h : ∀ t ∈ l,badE l t.a t.b=false∧badE l t.b t.c=false∧badE l t.c t.a=false) : openT l=false:=by
 unfold openT openE
 rw [List.any_eq_false]
 intro e he
 unfold edges at he
 obtain ⟨t,ht,h2⟩:=List.mem_flatMap.1 he
 obtain ⟨k1,k2,k3⟩:=h t ht
 rw [badE_iff] at k1 k2 k3
 simp only [Tr.edges,List.mem_cons,List.not_mem_nil,or_false] at h2
 rcases h2 with rfl | rfl | rfl
 ·rw [k1]; decide
 ·rw [k2]; decide
 ·rw [k3]; decide
theorem edge_mem {l : List TV} {k : Nat} {t : TV} (h : l[k]?=some t) : (t.a,t.b) ∈ edges l∧(t.b,t.c) ∈ edges l∧(t.c,t.a) ∈ edges l:=by
 have ht:=List.mem_of_getElem? h
 unfold edges
 refine ⟨List.mem_flatMap.2 ⟨t,ht, ?_⟩,List.mem_flatMap.2 ⟨t,ht, ?_⟩,List.mem_flatMap.2 ⟨t,ht, ?_⟩⟩<;>simp [Tr.edges]
def fineT (l : List TV) (t : TV) : Bool := !(badE l t.a t.b) && !(badE l t.b t.c) && !(badE l t.c t.a)
theorem fine_all {l : List TV} (h : l.all (fineT l)=true) : openT l=false:=by
 apply open_none
 intro t ht
 have:=List.all_eq_true.1 h t ht
 unfold fineT at this
 simp only [Bool.and_eq_true,Bool.not_eq_true'] at this
 exact ⟨this.1.1,this.1.2,this.2⟩
set_option maxHeartbeats 4000000 in
set_option maxRecDepth 100000 in
theorem rCheck_walk (v : Value) (l : List TV) (w : World) (hv : Ts w v l) (hs : tle l 10000000) :
  Calls Tryz.prog 39 #[v] w fun e w'=>e=.returned (.int .i64 (chkC l))∧Below w.heap.size w w':=by
 have HVA:=Lib.hid (fun w hv=>rvalid_walk v l w hv hs)
 by_cases hbig : 512<l.length
 ·have E:=Lib.hid (chkC_large hbig)
  obtain ⟨A,cap,rfl,hn,hc,hcell⟩:=hv.open
  have hbig2 : (512 : Int)<(l.length : Int):=by omega
  clear hs hcell hv HVA
  go_enter Tryz.func39,Tryz.ntmps39
  go_wp2
  go_ret
  exact ⟨ret_i64 E.out.symm,bel⟩
 have HRU:=Lib.hid (fun s t w hv=>rruns_walk v l s t w hv (by omega))
 have HARG : Hid (l.all tvalid=false→chkC l=1):=Lib.hid (fun h=>by unfold chkC; rw [if_neg hbig,h]; rfl)
 have HOPEN : Hid (l.all tvalid=true→openT l=true→chkC l=17):=Lib.hid (fun h1 h2=>chkC_open hbig h1 h2)
 have HOK : Hid (l.all tvalid=true→openT l=false→chkC l=0):=Lib.hid (fun h1 h2=>chkC_ok hbig h1 h2)
 have HBAD:=Lib.hid (fun (a b : SV) (h : (a,b) ∈ edges l) (hb : badE l a b=true)=>open_bad h hb)
 have HFINE:=Lib.hid (fun (h : l.all (fineT l)=true)=>fine_all h)
 have HRL:=Lib.hid (fun a b=>runsL_le l a b)
 obtain ⟨A,cap,rfl,hn,hc,hcell⟩:=hv.open
 have HV:=Lib.hid hv
 have HCL:=Lib.hid hcell
 have HTE:=Lib.hid (show l.take l.length=l from List.take_length)
 obtain ⟨n,hn0⟩ : ∃ n,n=l.length:=⟨_,rfl⟩
 have HG:=Lib.hid (fun k (hk : k<n)=>(show ∃ s,l[k]?=some s from ⟨_,List.getElem?_eq_getElem (by rw [← hn0]; exact hk)⟩))
 have hn512 : ¬ (512 : Int)<(n : Int):=by omega
 rw [← hn0] at hn HV HCL HTE HRU HVA HRL ⊢
 have hbig2 : n≤512:=by omega
 clear hn0 hv hcell hs hbig
 go_enter Tryz.func39,Tryz.ntmps39
 go_wp2_with fail
 refine (HVA.out _ HV.out).mono ?_
 rintro e w1 ⟨rfl,g1⟩
 cases hva : l.all tvalid
 ·have E:=Lib.hid (HARG.out hva)
  have B1:=bn (w:=w) bel g1
  clear hva HARG HOPEN HOK
  go_wp2
  go_ret
  exact ⟨ret_i64 E.out.symm,bel⟩
 have HO1:=Lib.hid (fun h=>HOPEN.out hva h)
 have HO2:=Lib.hid (fun h=>HOK.out hva h)
 have B1:=bn (w:=w) bel g1
 clear hva HARG HOPEN HOK g1
 go_wp2
 go_loopw [3] (fun ii wr=>∃ k : Nat,k≤n∧ii=.int .i64 k∧Hid ((l.take k).all (fineT l)=true)∧Below w.heap.size w wr) (fun ii _=>n - (intOf ii).toNat)
 case atStart=>exact ⟨0,Nat.zero_le _,rfl,Lib.hid rfl,B1⟩
 case round =>
  obtain ⟨k,hk,rfl,hd,hb⟩:=hrel
  by_cases hlt : k<n
  ·obtain ⟨t,hg⟩:=HG.out k hlt
   obtain ⟨b,off,rfl,hcl⟩:=HCL.out (by omega)
   have HNC:=Lib.hid (ts_nine (fun i u hu=>cell_below hb (hcl _ _ hg i u hu)))
   obtain ⟨m1,m2,m3⟩:=edge_mem hg
   have HX0:=Lib.hid (fun h=>HO1.out (HBAD.out _ _ m1 h))
   have HX1:=Lib.hid (fun h=>HO1.out (HBAD.out _ _ m2 h))
   have HX2:=Lib.hid (fun h=>HO1.out (HBAD.out _ _ m3 h))
   have HT:=Lib.hid (fun (h : fineT l t=true)=>take_all hg hd.out h)
   have HU:=Lib.hid hd
   have hk0 : (0 : Int)≤(k : Int):=by omega
   have hkn : (k : Int)<(n : Int):=by omega
   have hsz:=hb.size
   clear hg hcl m1 m2 m3 hd
   go_wp2
   go_loopw [4] (fun jj wx=>∃ j : Nat,j≤3∧jj=.int .i64 j∧Hid ((0<j→badE l t.a t.b=false)∧(1<j→badE l t.b t.c=false)∧(2<j→badE l t.c t.a=false))∧Below wr.heap.size wr wx) (fun jj _=>3 - (intOf jj).toNat)
   case atStart=>exact ⟨0,by omega,rfl,Lib.hid ⟨fun h=>by omega,fun h=>by omega,fun h=>by omega⟩,Below.refl _ _⟩
   case round =>
    obtain ⟨j,hj,rfl,hfi,hbx⟩:=hrel
    obtain ⟨⟨c0,c1,c2,c3,c4,c5,c6,c7,c8⟩, -⟩:=And.intro HNC.out trivial
    have c0:=cell_below hbx c0
    have c1:=cell_below hbx c1
    have c2:=cell_below hbx c2
    have c3:=cell_below hbx c3
    have c4:=cell_below hbx c4
    have c5:=cell_below hbx c5
    have c6:=cell_below hbx c6
    have c7:=cell_below hbx c7
    have c8:=cell_below hbx c8
    have hbw : Below w.heap.size w wr:=bn hb hbx
    rcases (show j=0∨j=1∨j=2∨j=3 by omega) with rfl | rfl | rfl | rfl
    ·rw [show ((0 : Nat) : Int)=0 from rfl]
     have HR1:=Lib.hid (fun w hv=>HRU.out t.a t.b w hv)
     have HR2:=Lib.hid (fun w hv=>HRU.out t.b t.a w hv)
     have hr1:=HRL.out t.a t.b
     have hr2:=HRL.out t.b t.a
     have hnq : ∀ w,(binOp .neq 25 (.agg #[.string t.a.x,.string t.a.y,.string t.a.z]) (.agg #[.string t.b.x,.string t.b.y,.string t.b.z])).run Tryz.prog w=.ok (.bool !(decide (t.a=t.b))) w:=fun w=>by rw [neq_vec,sv_eq]
     have HBD : Hid (badE l t.a t.b=(!(decide (t.a=t.b)) && !(decide (runsL l t.a t.b=runsL l t.b t.a)))):=Lib.hid rfl
     have HX:=HX0
     clear HX0 HX1 HX2 HRU HRL HNC
     generalize decide (t.a=t.b)=u at *
     generalize runsL l t.a t.b=r1 at *
     generalize runsL l t.b t.a=r2 at *
     unfold SV.val at HR1 HR2
     obtain ⟨p0,hp0⟩ : ∃ s,s=t.a.x:=⟨_,rfl⟩
     obtain ⟨p1,hp1⟩ : ∃ s,s=t.a.y:=⟨_,rfl⟩
     obtain ⟨p2,hp2⟩ : ∃ s,s=t.a.z:=⟨_,rfl⟩
     obtain ⟨q0,hq0⟩ : ∃ s,s=t.b.x:=⟨_,rfl⟩
     obtain ⟨q1,hq1⟩ : ∃ s,s=t.b.y:=⟨_,rfl⟩
     obtain ⟨q2,hq2⟩ : ∃ s,s=t.b.z:=⟨_,rfl⟩
     rw [← hp0,← hp1,← hp2,← hq0,← hq1,← hq2] at HR1 HR2 hnq
     rw [← hp0] at c0
     rw [← hp1] at c1
     rw [← hp2] at c2
     rw [← hq0] at c3
     rw [← hq1] at c4
     rw [← hq2] at c5
     clear hp0 hp1 hp2 hq0 hq1 hq2 c6 c7 c8
     have ht1 : Int.tmod (1 : Int) 3=1:=by decide
     have ht2 : Int.tmod ((0 : Int)+1) 3=1:=by decide
     have ht3 : (1 : Int) % 3=1:=by decide
     have hwr : IntKind.i64.wrap (1 : Int)=1:=by decide
     go_upto_region 11 with fail
     go_cut [5,6] (fun s5 s6 wx=>∃ a5 a6 : Nat,s5=.pointer (some ⟨a5,0,none⟩)∧s6=.pointer (some ⟨a6,0,none⟩)∧Hid (Bk wx a5 [.string p0,.string p1,.string p2])∧Hid (Bk wx a6 [.string q0,.string q1,.string q2])∧Below wr.heap.size wr wx)
     case first =>
      refine wp_region_held_drew (S:=fun w'=>w'.cell? ⟨b,off+k * 9,none⟩=some (.string p0)∧w'.cell? ⟨b,off+k * 9+1,none⟩=some (.string p1)∧w'.cell? ⟨b,off+k * 9+2,none⟩=some (.string p2)∧w'.cell? ⟨b,off+k * 9+3,none⟩=some (.string q0)∧w'.cell? ⟨b,off+k * 9+4,none⟩=some (.string q1)∧w'.cell? ⟨b,off+k * 9+5,none⟩=some (.string q2)∧Below wr.heap.size wr w') (by kernel_rfl) ?_ (fun hHeld=>?_)
      ·exact (k6x c0 c1 c2 c3 c4 c5)
      refine wtk 0 (.slice (some ⟨b,off,none⟩) n cap) rfl rfl (fun w' hS=>?_) hHeld ?_
      ·(try dsimp only at hS); go_split_ands; go_simp
      try simp only [Act.put,lsx]
      refine wtk 1 (.int .i64 k) rfl rfl (fun w' hS=>?_) hHeld ?_
      ·(try dsimp only at hS); go_split_ands; go_simp
      try simp only [Act.put,lsx]
      refine wtk 2 (.int .i64 0) rfl rfl (fun w' hS=>?_) hHeld ?_
      ·(try dsimp only at hS); go_split_ands; go_simp
      try simp only [Act.put,lsx]
      refine wtk 3 (.pointer (some ⟨b,off+k * 9,none⟩)) rfl rfl (fun w' hS=>?_) hHeld ?_
      ·(try dsimp only at hS); go_split_ands; go_simp
      try simp only [Act.put,lsx]
      refine wtk 4 (.pointer (some ⟨b,off+k * 9,none⟩)) rfl rfl (fun w' hS=>?_) hHeld ?_
      ·(try dsimp only at hS); go_split_ands; go_simp
      try simp only [Act.put,lsx]
      refine wtk 5 (.agg #[.string p0,.string p1,.string p2]) rfl rfl (fun w' hS=>?_) hHeld ?_
      ·(try dsimp only at hS); go_split_ands; go_simp
      try simp only [Act.put,lsx]
      refine wtk 6 (.slice (some ⟨b,off,none⟩) n cap) rfl rfl (fun w' hS=>?_) hHeld ?_
      ·(try dsimp only at hS); go_split_ands; go_simp
      try simp only [Act.put,lsx]
      refine wtk 7 (.int .i64 k) rfl rfl (fun w' hS=>?_) hHeld ?_
      ·(try dsimp only at hS); go_split_ands; go_simp
      try simp only [Act.put,lsx]
      refine wtk 8 (.int .i64 0) rfl rfl (fun w' hS=>?_) hHeld ?_
      ·(try dsimp only at hS); go_split_ands; go_simp
      try simp only [Act.put,lsx]
      refine wtk 9 (.int .i64 1) rfl rfl (fun w' hS=>?_) hHeld ?_
      ·(try dsimp only at hS); go_split_ands; go_simp
      try simp only [Act.put,lsx]
      refine wtk 10 (.int .i64 1) rfl rfl (fun w' hS=>?_) hHeld ?_
      ·(try dsimp only at hS); go_split_ands; go_simp
      try simp only [Act.put,lsx]
      refine wtk 11 (.pointer (some ⟨b,off+k * 9,none⟩)) rfl rfl (fun w' hS=>?_) hHeld ?_
      ·(try dsimp only at hS); go_split_ands; go_simp
      try simp only [Act.put,lsx]
      refine wtk 12 (.pointer (some ⟨b,off+k * 9+3,none⟩)) rfl rfl (fun w' hS=>?_) hHeld ?_
      ·(try dsimp only at hS); go_split_ands; go_simp
      try simp only [Act.put,lsx]
      refine wtk 13 (.agg #[.string q0,.string q1,.string q2]) rfl rfl (fun w' hS=>?_) hHeld ?_
      ·(try dsimp only at hS); go_split_ands; go_simp
      try simp only [Act.put,lsx]
      refine wpAnyH_ready (rs:=[14,15]) (by kernel_rfl) (by simp) ?_
      refine AllReadyH.cons rfl (fun K hK=>?_) (AllReadyH.cons rfl (fun K hK=>?_) AllReadyH.nil)
      ·skip
       rw [if_pos (by rfl)]
       go_simp
       refine hK.out _ _ (k6x c0 c1 c2 c3 c4 c5) (fun hHeld=>?_)
       clear hK K
       try simp only [Act.put,lsx]
       refine wrd 15 rfl (fun K hK=>?_)
       rw [if_pos (by rfl)]
       go_simp
       refine hK.out _ _ (k6x c0 c1 c2 c3 c4 c5) (fun hHeld=>?_)
       clear hK K
       try simp only [Act.put,lsx]
       refine wrd 16 rfl (fun K hK=>?_)
       rw [if_pos (by rfl)]
       go_simp
       refine hK.out _ _ (k6x c0 c1 c2 c3 c4 c5) (fun hHeld=>?_)
       clear hK K
       try simp only [Act.put,lsx]
       refine wrd 17 rfl (fun K hK=>?_)
       rw [if_pos (by rfl)]
       go_simp
       refine hK.out _ _ (k6x c0 c1 c2 c3 c4 c5) (fun hHeld=>?_)
       clear hK K
       try simp only [Act.put,lsx]
       refine wpAnyH_done (by kernel_rfl) ?_ _
       go_wp2_with fail
       go_meet
       first
        | exact ⟨_,_,rfl,rfl,Lib.hid bkk,Lib.hid bkk,hHeld.2.2.2.2.2.2⟩
        | (trace_state; fail "x")
      ·skip
       rw [if_pos (by rfl)]
       go_simp
       refine hK.out _ _ (k6x c0 c1 c2 c3 c4 c5) (fun hHeld=>?_)
       clear hK K
       try simp only [Act.put,lsx]
       refine wrd 14 rfl (fun K hK=>?_)
       rw [if_pos (by rfl)]
       go_simp
       refine hK.out _ _ (k6x c0 c1 c2 c3 c4 c5) (fun hHeld=>?_)
       clear hK K
       try simp only [Act.put,lsx]
       refine wrd 16 rfl (fun K hK=>?_)
       rw [if_pos (by rfl)]
       go_simp
       refine hK.out _ _ (k6x c0 c1 c2 c3 c4 c5) (fun hHeld=>?_)
       clear hK K
       try simp only [Act.put,lsx]
       refine wrd 17 rfl (fun K hK=>?_)
       rw [if_pos (by rfl)]
       go_simp
       refine hK.out _ _ (k6x c0 c1 c2 c3 c4 c5) (fun hHeld=>?_)
       clear hK K
       try simp only [Act.put,lsx]
       refine wpAnyH_done (by kernel_rfl) ?_ _
       go_wp2_with fail
       go_meet
       first
        | exact ⟨_,_,rfl,rfl,Lib.hid bkk,Lib.hid bkk,hHeld.2.2.2.2.2.2⟩
        | (trace_state; fail "x")
     case rest =>
      obtain ⟨a5,a6,rfl,rfl,HK5,HK6,hbz⟩:=hcut
      obtain ⟨w3,hWW⟩ : ∃ x,x=wc:=⟨_,rfl⟩
      subst hWW
      obtain ⟨y0,y1,y2, -⟩:=HK5.out.c3
      obtain ⟨z0,z1,z2, -⟩:=HK6.out.c3
      have hbW3 : Below w.heap.size w w3:=bn hbw hbz
      have hbR3:=bn hbx hbz
      clear c0 c1 c2 c3 c4 c5 HK5 HK6
      cases u
      ·go_wp2_with fail
       go_region_held3 (fun w'=>w'.cell? ⟨a5,0,none⟩=some (.string p0)∧w'.cell? ⟨a5,1,none⟩=some (.string p1)∧w'.cell? ⟨a5,2,none⟩=some (.string p2)∧w'.cell? ⟨a6,0,none⟩=some (.string q0)∧w'.cell? ⟨a6,1,none⟩=some (.string q1)∧w'.cell? ⟨a6,2,none⟩=some (.string q2)∧Below w3.heap.size w3 w')
        ((refine (fun hb=>⟨bc hb y0,bc hb y1,bc hb y2,bc hb z0,bc hb z1,bc hb z2,hb⟩) ?_; go_split_ands; repeat (first | with_reducible assumption | (with_reducible exact bd (br _)) | (with_reducible exact br _) | (with_reducible refine bn ?_ g) | (with_reducible refine ba ?_) | (with_reducible refine bd ?_))))
        (first | (have X1x:=X1; go_at_call 84; refine (HR2.out _ (HV.out.below (bn hbW3 (by go_split_ands; assumption)))).mono ?_; rintro e wx2 ⟨rfl,g⟩; have X2 : Below w3.heap.size w3 wx2:=bn (by go_split_ands; assumption) g) | (go_at_call 84; refine (HR1.out _ (HV.out.below (bn hbW3 (by go_split_ands; assumption)))).mono ?_; rintro e wx1 ⟨rfl,g⟩; have X1 : Below w3.heap.size w3 wx1:=bn (by go_split_ands; assumption) g))
       by_cases hrr : r1=r2
       ·have hne : ((r1 : Int) != (r2 : Int))=false:=by simp [hrr]
        go_wp2
        go_roundw
        case rel=>exact ⟨1,by omega,by first | rfl | go_num,Lib.hid ⟨fun _=>by rw [HBD.out]; simp [hrr],fun h=>by omega,fun h=>by omega⟩,bn hbR3 X2⟩
        case measure=>simp [intOf]
       ·have hne : ((r1 : Int) != (r2 : Int))=true:=by rw [bne_iff_ne]; omega
        have E:=Lib.hid (HX.out (by rw [HBD.out]; simp [hrr]))
        go_wp2
        go_ret
        exact ⟨ret_i64 E.out.symm,bn hbW3 X2⟩
      ·go_wp2_with fail
       go_quiet (fail)
       go_wp2
       go_roundw
       case rel=>exact ⟨1,by omega,by first | rfl | go_num,Lib.hid ⟨fun _=>by rw [HBD.out]; rfl,fun h=>by omega,fun h=>by omega⟩,by first | exact hbR3 | exact bd hbR3 | exact below_drewN hbR3 _⟩
       case measure=>simp [intOf]
    ·rw [show ((1 : Nat) : Int)=1 from rfl]
     have HR1:=Lib.hid (fun w hv=>HRU.out t.b t.c w hv)
     have HR2:=Lib.hid (fun w hv=>HRU.out t.c t.b w hv)
     have hr1:=HRL.out t.b t.c
     have hr2:=HRL.out t.c t.b
     have hnq : ∀ w,(binOp .neq 25 (.agg #[.string t.b.x,.string t.b.y,.string t.b.z]) (.agg #[.string t.c.x,.string t.c.y,.string t.c.z])).run Tryz.prog w=.ok (.bool !(decide (t.b=t.c))) w:=fun w=>by rw [neq_vec,sv_eq]
     have HBD : Hid (badE l t.b t.c=(!(decide (t.b=t.c)) && !(decide (runsL l t.b t.c=runsL l t.c t.b)))):=Lib.hid rfl
     have HX:=HX1
     clear HX0 HX1 HX2 HRU HRL HNC
     generalize decide (t.b=t.c)=u at *
     generalize runsL l t.b t.c=r1 at *
     generalize runsL l t.c t.b=r2 at *
     unfold SV.val at HR1 HR2
     obtain ⟨p0,hp0⟩ : ∃ s,s=t.b.x:=⟨_,rfl⟩
     obtain ⟨p1,hp1⟩ : ∃ s,s=t.b.y:=⟨_,rfl⟩
     obtain ⟨p2,hp2⟩ : ∃ s,s=t.b.z:=⟨_,rfl⟩
     obtain ⟨q0,hq0⟩ : ∃ s,s=t.c.x:=⟨_,rfl⟩
     obtain ⟨q1,hq1⟩ : ∃ s,s=t.c.y:=⟨_,rfl⟩
     obtain ⟨q2,hq2⟩ : ∃ s,s=t.c.z:=⟨_,rfl⟩
     rw [← hp0,← hp1,← hp2,← hq0,← hq1,← hq2] at HR1 HR2 hnq
     rw [← hp0] at c3
     rw [← hp1] at c4
     rw [← hp2] at c5
     rw [← hq0] at c6
     rw [← hq1] at c7
     rw [← hq2] at c8
     clear hp0 hp1 hp2 hq0 hq1 hq2 c0 c1 c2
     have ht1 : Int.tmod (2 : Int) 3=2:=by decide
     have ht2 : Int.tmod ((1 : Int)+1) 3=2:=by decide
     have ht3 : (2 : Int) % 3=2:=by decide
     have hwr : IntKind.i64.wrap (2 : Int)=2:=by decide
     go_upto_region 11 with fail
     go_cut [5,6] (fun s5 s6 wx=>∃ a5 a6 : Nat,s5=.pointer (some ⟨a5,0,none⟩)∧s6=.pointer (some ⟨a6,0,none⟩)∧Hid (Bk wx a5 [.string p0,.string p1,.string p2])∧Hid (Bk wx a6 [.string q0,.string q1,.string q2])∧Below wr.heap.size wr wx)
     case first =>
      refine wp_region_held_drew (S:=fun w'=>w'.cell? ⟨b,off+k * 9+3,none⟩=some (.string p0)∧w'.cell? ⟨b,off+k * 9+4,none⟩=some (.string p1)∧w'.cell? ⟨b,off+k * 9+5,none⟩=some (.string p2)∧w'.cell? ⟨b,off+k * 9+6,none⟩=some (.string q0)∧w'.cell? ⟨b,off+k * 9+7,none⟩=some (.string q1)∧w'.cell? ⟨b,off+k * 9+8,none⟩=some (.string q2)∧Below wr.heap.size wr w') (by kernel_rfl) ?_ (fun hHeld=>?_)
      ·exact (k6x c3 c4 c5 c6 c7 c8)
      refine wtk 0 (.slice (some ⟨b,off,none⟩) n cap) rfl rfl (fun w' hS=>?_) hHeld ?_
      ·(try dsimp only at hS); go_split_ands; go_simp
      try simp only [Act.put,lsx]
      refine wtk 1 (.int .i64 k) rfl rfl (fun w' hS=>?_) hHeld ?_
      ·(try dsimp only at hS); go_split_ands; go_simp
      try simp only [Act.put,lsx]
      refine wtk 2 (.int .i64 1) rfl rfl (fun w' hS=>?_) hHeld ?_
      ·(try dsimp only at hS); go_split_ands; go_simp
      try simp only [Act.put,lsx]
      refine wtk 3 (.pointer (some ⟨b,off+k * 9,none⟩)) rfl rfl (fun w' hS=>?_) hHeld ?_
      ·(try dsimp only at hS); go_split_ands; go_simp
      try simp only [Act.put,lsx]
      refine wtk 4 (.pointer (some ⟨b,off+k * 9+3,none⟩)) rfl rfl (fun w' hS=>?_) hHeld ?_
      ·(try dsimp only at hS); go_split_ands; go_simp
      try simp only [Act.put,lsx]
      refine wtk 5 (.agg #[.string p0,.string p1,.string p2]) rfl rfl (fun w' hS=>?_) hHeld ?_
      ·(try dsimp only at hS); go_split_ands; go_simp
      try simp only [Act.put,lsx]
      refine wtk 6 (.slice (some ⟨b,off,none⟩) n cap) rfl rfl (fun w' hS=>?_) hHeld ?_
      ·(try dsimp only at hS); go_split_ands; go_simp
      try simp only [Act.put,lsx]
      refine wtk 7 (.int .i64 k) rfl rfl (fun w' hS=>?_) hHeld ?_
      ·(try dsimp only at hS); go_split_ands; go_simp
      try simp only [Act.put,lsx]
      refine wtk 8 (.int .i64 1) rfl rfl (fun w' hS=>?_) hHeld ?_
      ·(try dsimp only at hS); go_split_ands; go_simp
      try simp only [Act.put,lsx]
      refine wtk 9 (.int .i64 2) rfl rfl (fun w' hS=>?_) hHeld ?_
      ·(try dsimp only at hS); go_split_ands; go_simp
      try simp only [Act.put,lsx]
      refine wtk 10 (.int .i64 2) rfl rfl (fun w' hS=>?_) hHeld ?_
      ·(try dsimp only at hS); go_split_ands; go_simp
      try simp only [Act.put,lsx]
      refine wtk 11 (.pointer (some ⟨b,off+k * 9,none⟩)) rfl rfl (fun w' hS=>?_) hHeld ?_
      ·(try dsimp only at hS); go_split_ands; go_simp
      try simp only [Act.put,lsx]
      refine wtk 12 (.pointer (some ⟨b,off+k * 9+6,none⟩)) rfl rfl (fun w' hS=>?_) hHeld ?_
      ·(try dsimp only at hS); go_split_ands; go_simp
      try simp only [Act.put,lsx]
      refine wtk 13 (.agg #[.string q0,.string q1,.string q2]) rfl rfl (fun w' hS=>?_) hHeld ?_
      ·(try dsimp only at hS); go_split_ands; go_simp
      try simp only [Act.put,lsx]
      refine wpAnyH_ready (rs:=[14,15]) (by kernel_rfl) (by simp) ?_
      refine AllReadyH.cons rfl (fun K hK=>?_) (AllReadyH.cons rfl (fun K hK=>?_) AllReadyH.nil)
      ·skip
       rw [if_pos (by rfl)]
       go_simp
       refine hK.out _ _ (k6x c3 c4 c5 c6 c7 c8) (fun hHeld=>?_)
       clear hK K
       try simp only [Act.put,lsx]
       refine wrd 15 rfl (fun K hK=>?_)
       rw [if_pos (by rfl)]
       go_simp
       refine hK.out _ _ (k6x c3 c4 c5 c6 c7 c8) (fun hHeld=>?_)
       clear hK K
       try simp only [Act.put,lsx]
       refine wrd 16 rfl (fun K hK=>?_)
       rw [if_pos (by rfl)]
       go_simp
       refine hK.out _ _ (k6x c3 c4 c5 c6 c7 c8) (fun hHeld=>?_)
       clear hK K
       try simp only [Act.put,lsx]
       refine wrd 17 rfl (fun K hK=>?_)
       rw [if_pos (by rfl)]
       go_simp
       refine hK.out _ _ (k6x c3 c4 c5 c6 c7 c8) (fun hHeld=>?_)
       clear hK K
       try simp only [Act.put,lsx]
       refine wpAnyH_done (by kernel_rfl) ?_ _
       go_wp2_with fail
       go_meet
       first
        | exact ⟨_,_,rfl,rfl,Lib.hid bkk,Lib.hid bkk,hHeld.2.2.2.2.2.2⟩
        | (trace_state; fail "x")
      ·skip
       rw [if_pos (by rfl)]
       go_simp
       refine hK.out _ _ (k6x c3 c4 c5 c6 c7 c8) (fun hHeld=>?_)
       clear hK K
       try simp only [Act.put,lsx]
       refine wrd 14 rfl (fun K hK=>?_)
       rw [if_pos (by rfl)]
       go_simp
       refine hK.out _ _ (k6x c3 c4 c5 c6 c7 c8) (fun hHeld=>?_)
       clear hK K
       try simp only [Act.put,lsx]
       refine wrd 16 rfl (fun K hK=>?_)
       rw [if_pos (by rfl)]
       go_simp
       refine hK.out _ _ (k6x c3 c4 c5 c6 c7 c8) (fun hHeld=>?_)
       clear hK K
       try simp only [Act.put,lsx]
       refine wrd 17 rfl (fun K hK=>?_)
       rw [if_pos (by rfl)]
       go_simp
       refine hK.out _ _ (k6x c3 c4 c5 c6 c7 c8) (fun hHeld=>?_)
       clear hK K
       try simp only [Act.put,lsx]
       refine wpAnyH_done (by kernel_rfl) ?_ _
       go_wp2_with fail
       go_meet
       first
        | exact ⟨_,_,rfl,rfl,Lib.hid bkk,Lib.hid bkk,hHeld.2.2.2.2.2.2⟩
        | (trace_state; fail "x")
     case rest =>
      obtain ⟨a5,a6,rfl,rfl,HK5,HK6,hbz⟩:=hcut
      obtain ⟨w3,hWW⟩ : ∃ x,x=wc:=⟨_,rfl⟩
      subst hWW
      obtain ⟨y0,y1,y2, -⟩:=HK5.out.c3
      obtain ⟨z0,z1,z2, -⟩:=HK6.out.c3
      have hbW3 : Below w.heap.size w w3:=bn hbw hbz
      have hbR3:=bn hbx hbz
      clear c3 c4 c5 c6 c7 c8 HK5 HK6
      cases u
      ·go_wp2_with fail
       go_region_held3 (fun w'=>w'.cell? ⟨a5,0,none⟩=some (.string p0)∧w'.cell? ⟨a5,1,none⟩=some (.string p1)∧w'.cell? ⟨a5,2,none⟩=some (.string p2)∧w'.cell? ⟨a6,0,none⟩=some (.string q0)∧w'.cell? ⟨a6,1,none⟩=some (.string q1)∧w'.cell? ⟨a6,2,none⟩=some (.string q2)∧Below w3.heap.size w3 w')
        ((refine (fun hb=>⟨bc hb y0,bc hb y1,bc hb y2,bc hb z0,bc hb z1,bc hb z2,hb⟩) ?_; go_split_ands; repeat (first | with_reducible assumption | (with_reducible exact bd (br _)) | (with_reducible exact br _) | (with_reducible refine bn ?_ g) | (with_reducible refine ba ?_) | (with_reducible refine bd ?_))))
        (first | (have X1x:=X1; go_at_call 84; refine (HR2.out _ (HV.out.below (bn hbW3 (by go_split_ands; assumption)))).mono ?_; rintro e wx2 ⟨rfl,g⟩; have X2 : Below w3.heap.size w3 wx2:=bn (by go_split_ands; assumption) g) | (go_at_call 84; refine (HR1.out _ (HV.out.below (bn hbW3 (by go_split_ands; assumption)))).mono ?_; rintro e wx1 ⟨rfl,g⟩; have X1 : Below w3.heap.size w3 wx1:=bn (by go_split_ands; assumption) g))
       by_cases hrr : r1=r2
       ·have hne : ((r1 : Int) != (r2 : Int))=false:=by simp [hrr]
        go_wp2
        go_roundw
        case rel=>exact ⟨2,by omega,by first | rfl | go_num,Lib.hid ⟨fun h=>hfi.out.1 (by omega),fun _=>by rw [HBD.out]; simp [hrr],fun h=>by omega⟩,bn hbR3 X2⟩
        case measure=>simp [intOf]
       ·have hne : ((r1 : Int) != (r2 : Int))=true:=by rw [bne_iff_ne]; omega
        have E:=Lib.hid (HX.out (by rw [HBD.out]; simp [hrr]))
        go_wp2
        go_ret
        exact ⟨ret_i64 E.out.symm,bn hbW3 X2⟩
      ·go_wp2_with fail
       go_quiet (fail)
       go_wp2
       go_roundw
       case rel=>exact ⟨2,by omega,by first | rfl | go_num,Lib.hid ⟨fun h=>hfi.out.1 (by omega),fun _=>by rw [HBD.out]; rfl,fun h=>by omega⟩,by first | exact hbR3 | exact bd hbR3 | exact below_drewN hbR3 _⟩
       case measure=>simp [intOf]
    ·rw [show ((2 : Nat) : Int)=2 from rfl]
     have HR1:=Lib.hid (fun w hv=>HRU.out t.c t.a w hv)
     have HR2:=Lib.hid (fun w hv=>HRU.out t.a t.c w hv)
     have hr1:=HRL.out t.c t.a
     have hr2:=HRL.out t.a t.c
     have hnq : ∀ w,(binOp .neq 25 (.agg #[.string t.c.x,.string t.c.y,.string t.c.z]) (.agg #[.string t.a.x,.string t.a.y,.string t.a.z])).run Tryz.prog w=.ok (.bool !(decide (t.c=t.a))) w:=fun w=>by rw [neq_vec,sv_eq]
     have HBD : Hid (badE l t.c t.a=(!(decide (t.c=t.a)) && !(decide (runsL l t.c t.a=runsL l t.a t.c)))):=Lib.hid rfl
     have HX:=HX2
     clear HX0 HX1 HX2 HRU HRL HNC
     generalize decide (t.c=t.a)=u at *
     generalize runsL l t.c t.a=r1 at *
     generalize runsL l t.a t.c=r2 at *
     unfold SV.val at HR1 HR2
     obtain ⟨p0,hp0⟩ : ∃ s,s=t.c.x:=⟨_,rfl⟩
     obtain ⟨p1,hp1⟩ : ∃ s,s=t.c.y:=⟨_,rfl⟩
     obtain ⟨p2,hp2⟩ : ∃ s,s=t.c.z:=⟨_,rfl⟩
     obtain ⟨q0,hq0⟩ : ∃ s,s=t.a.x:=⟨_,rfl⟩
     obtain ⟨q1,hq1⟩ : ∃ s,s=t.a.y:=⟨_,rfl⟩
     obtain ⟨q2,hq2⟩ : ∃ s,s=t.a.z:=⟨_,rfl⟩
     rw [← hp0,← hp1,← hp2,← hq0,← hq1,← hq2] at HR1 HR2 hnq
     rw [← hp0] at c6
     rw [← hp1] at c7
     rw [← hp2] at c8
     rw [← hq0] at c0
     rw [← hq1] at c1
     rw [← hq2] at c2
     clear hp0 hp1 hp2 hq0 hq1 hq2 c3 c4 c5
     have ht1 : Int.tmod (3 : Int) 3=0:=by decide
     have ht2 : Int.tmod ((2 : Int)+1) 3=0:=by decide
     have ht3 : (3 : Int) % 3=0:=by decide
     have hwr : IntKind.i64.wrap (3 : Int)=3:=by decide
     go_upto_region 11 with fail
     go_cut [5,6] (fun s5 s6 wx=>∃ a5 a6 : Nat,s5=.pointer (some ⟨a5,0,none⟩)∧s6=.pointer (some ⟨a6,0,none⟩)∧Hid (Bk wx a5 [.string p0,.string p1,.string p2])∧Hid (Bk wx a6 [.string q0,.string q1,.string q2])∧Below wr.heap.size wr wx)
     case first =>
      refine wp_region_held_drew (S:=fun w'=>w'.cell? ⟨b,off+k * 9+6,none⟩=some (.string p0)∧w'.cell? ⟨b,off+k * 9+7,none⟩=some (.string p1)∧w'.cell? ⟨b,off+k * 9+8,none⟩=some (.string p2)∧w'.cell? ⟨b,off+k * 9,none⟩=some (.string q0)∧w'.cell? ⟨b,off+k * 9+1,none⟩=some (.string q1)∧w'.cell? ⟨b,off+k * 9+2,none⟩=some (.string q2)∧Below wr.heap.size wr w') (by kernel_rfl) ?_ (fun hHeld=>?_)
      ·exact (k6x c6 c7 c8 c0 c1 c2)
      refine wtk 0 (.slice (some ⟨b,off,none⟩) n cap) rfl rfl (fun w' hS=>?_) hHeld ?_
      ·(try dsimp only at hS); go_split_ands; go_simp
      try simp only [Act.put,lsx]
      refine wtk 1 (.int .i64 k) rfl rfl (fun w' hS=>?_) hHeld ?_
      ·(try dsimp only at hS); go_split_ands; go_simp
      try simp only [Act.put,lsx]
      refine wtk 2 (.int .i64 2) rfl rfl (fun w' hS=>?_) hHeld ?_
      ·(try dsimp only at hS); go_split_ands; go_simp
      try simp only [Act.put,lsx]
      refine wtk 3 (.pointer (some ⟨b,off+k * 9,none⟩)) rfl rfl (fun w' hS=>?_) hHeld ?_
      ·(try dsimp only at hS); go_split_ands; go_simp
      try simp only [Act.put,lsx]
      refine wtk 4 (.pointer (some ⟨b,off+k * 9+6,none⟩)) rfl rfl (fun w' hS=>?_) hHeld ?_
      ·(try dsimp only at hS); go_split_ands; go_simp
      try simp only [Act.put,lsx]
      refine wtk 5 (.agg #[.string p0,.string p1,.string p2]) rfl rfl (fun w' hS=>?_) hHeld ?_
      ·(try dsimp only at hS); go_split_ands; go_simp
      try simp only [Act.put,lsx]
      refine wtk 6 (.slice (some ⟨b,off,none⟩) n cap) rfl rfl (fun w' hS=>?_) hHeld ?_
      ·(try dsimp only at hS); go_split_ands; go_simp
      try simp only [Act.put,lsx]
      refine wtk 7 (.int .i64 k) rfl rfl (fun w' hS=>?_) hHeld ?_
      ·(try dsimp only at hS); go_split_ands; go_simp
      try simp only [Act.put,lsx]
      refine wtk 8 (.int .i64 2) rfl rfl (fun w' hS=>?_) hHeld ?_
      ·(try dsimp only at hS); go_split_ands; go_simp
      try simp only [Act.put,lsx]
      refine wtk 9 (.int .i64 3) rfl rfl (fun w' hS=>?_) hHeld ?_
      ·(try dsimp only at hS); go_split_ands; go_simp
      try simp only [Act.put,lsx]
      refine wtk 10 (.int .i64 0) rfl rfl (fun w' hS=>?_) hHeld ?_
      ·(try dsimp only at hS); go_split_ands; go_simp
      try simp only [Act.put,lsx]
      refine wtk 11 (.pointer (some ⟨b,off+k * 9,none⟩)) rfl rfl (fun w' hS=>?_) hHeld ?_
      ·(try dsimp only at hS); go_split_ands; go_simp
      try simp only [Act.put,lsx]
      refine wtk 12 (.pointer (some ⟨b,off+k * 9,none⟩)) rfl rfl (fun w' hS=>?_) hHeld ?_
      ·(try dsimp only at hS); go_split_ands; go_simp
      try simp only [Act.put,lsx]
      refine wtk 13 (.agg #[.string q0,.string q1,.string q2]) rfl rfl (fun w' hS=>?_) hHeld ?_
      ·(try dsimp only at hS); go_split_ands; go_simp
      try simp only [Act.put,lsx]
      refine wpAnyH_ready (rs:=[14,15]) (by kernel_rfl) (by simp) ?_
      refine AllReadyH.cons rfl (fun K hK=>?_) (AllReadyH.cons rfl (fun K hK=>?_) AllReadyH.nil)
      ·skip
       rw [if_pos (by rfl)]
       go_simp
       refine hK.out _ _ (k6x c6 c7 c8 c0 c1 c2) (fun hHeld=>?_)
       clear hK K
       try simp only [Act.put,lsx]
       refine wrd 15 rfl (fun K hK=>?_)
       rw [if_pos (by rfl)]
       go_simp
       refine hK.out _ _ (k6x c6 c7 c8 c0 c1 c2) (fun hHeld=>?_)
       clear hK K
       try simp only [Act.put,lsx]
       refine wrd 16 rfl (fun K hK=>?_)
       rw [if_pos (by rfl)]
       go_simp
       refine hK.out _ _ (k6x c6 c7 c8 c0 c1 c2) (fun hHeld=>?_)
       clear hK K
       try simp only [Act.put,lsx]
       refine wrd 17 rfl (fun K hK=>?_)
       rw [if_pos (by rfl)]
       go_simp
       refine hK.out _ _ (k6x c6 c7 c8 c0 c1 c2) (fun hHeld=>?_)
       clear hK K
       try simp only [Act.put,lsx]
       refine wpAnyH_done (by kernel_rfl) ?_ _
       go_wp2_with fail
       go_meet
       first
        | exact ⟨_,_,rfl,rfl,Lib.hid bkk,Lib.hid bkk,hHeld.2.2.2.2.2.2⟩
        | (trace_state; fail "x")
      ·skip
       rw [if_pos (by rfl)]
       go_simp
       refine hK.out _ _ (k6x c6 c7 c8 c0 c1 c2) (fun hHeld=>?_)
       clear hK K
       try simp only [Act.put,lsx]
       refine wrd 14 rfl (fun K hK=>?_)
       rw [if_pos (by rfl)]
       go_simp
       refine hK.out _ _ (k6x c6 c7 c8 c0 c1 c2) (fun hHeld=>?_)
       clear hK K
       try simp only [Act.put,lsx]
       refine wrd 16 rfl (fun K hK=>?_)
       rw [if_pos (by rfl)]
       go_simp
       refine hK.out _ _ (k6x c6 c7 c8 c0 c1 c2) (fun hHeld=>?_)
       clear hK K
       try simp only [Act.put,lsx]
       refine wrd 17 rfl (fun K hK=>?_)
       rw [if_pos (by rfl)]
       go_simp
       refine hK.out _ _ (k6x c6 c7 c8 c0 c1 c2) (fun hHeld=>?_)
       clear hK K
       try simp only [Act.put,lsx]
       refine wpAnyH_done (by kernel_rfl) ?_ _
       go_wp2_with fail
       go_meet
       first
        | exact ⟨_,_,rfl,rfl,Lib.hid bkk,Lib.hid bkk,hHeld.2.2.2.2.2.2⟩
        | (trace_state; fail "x")
     case rest =>
      obtain ⟨a5,a6,rfl,rfl,HK5,HK6,hbz⟩:=hcut
      obtain ⟨w3,hWW⟩ : ∃ x,x=wc:=⟨_,rfl⟩
      subst hWW
      obtain ⟨y0,y1,y2, -⟩:=HK5.out.c3
      obtain ⟨z0,z1,z2, -⟩:=HK6.out.c3
      have hbW3 : Below w.heap.size w w3:=bn hbw hbz
      have hbR3:=bn hbx hbz
      clear c6 c7 c8 c0 c1 c2 HK5 HK6
      cases u
      ·go_wp2_with fail
       go_region_held3 (fun w'=>w'.cell? ⟨a5,0,none⟩=some (.string p0)∧w'.cell? ⟨a5,1,none⟩=some (.string p1)∧w'.cell? ⟨a5,2,none⟩=some (.string p2)∧w'.cell? ⟨a6,0,none⟩=some (.string q0)∧w'.cell? ⟨a6,1,none⟩=some (.string q1)∧w'.cell? ⟨a6,2,none⟩=some (.string q2)∧Below w3.heap.size w3 w')
        ((refine (fun hb=>⟨bc hb y0,bc hb y1,bc hb y2,bc hb z0,bc hb z1,bc hb z2,hb⟩) ?_; go_split_ands; repeat (first | with_reducible assumption | (with_reducible exact bd (br _)) | (with_reducible exact br _) | (with_reducible refine bn ?_ g) | (with_reducible refine ba ?_) | (with_reducible refine bd ?_))))
        (first | (have X1x:=X1; go_at_call 84; refine (HR2.out _ (HV.out.below (bn hbW3 (by go_split_ands; assumption)))).mono ?_; rintro e wx2 ⟨rfl,g⟩; have X2 : Below w3.heap.size w3 wx2:=bn (by go_split_ands; assumption) g) | (go_at_call 84; refine (HR1.out _ (HV.out.below (bn hbW3 (by go_split_ands; assumption)))).mono ?_; rintro e wx1 ⟨rfl,g⟩; have X1 : Below w3.heap.size w3 wx1:=bn (by go_split_ands; assumption) g))
       by_cases hrr : r1=r2
       ·have hne : ((r1 : Int) != (r2 : Int))=false:=by simp [hrr]
        go_wp2
        go_roundw
        case rel=>exact ⟨3,by omega,by first | rfl | go_num,Lib.hid ⟨fun h=>hfi.out.1 (by omega),fun h=>hfi.out.2.1 (by omega),fun _=>by rw [HBD.out]; simp [hrr]⟩,bn hbR3 X2⟩
        case measure=>simp [intOf]
       ·have hne : ((r1 : Int) != (r2 : Int))=true:=by rw [bne_iff_ne]; omega
        have E:=Lib.hid (HX.out (by rw [HBD.out]; simp [hrr]))
        go_wp2
        go_ret
        exact ⟨ret_i64 E.out.symm,bn hbW3 X2⟩
      ·go_wp2_with fail
       go_quiet (fail)
       go_wp2
       go_roundw
       case rel=>exact ⟨3,by omega,by first | rfl | go_num,Lib.hid ⟨fun h=>hfi.out.1 (by omega),fun h=>hfi.out.2.1 (by omega),fun _=>by rw [HBD.out]; rfl⟩,by first | exact hbR3 | exact bd hbR3 | exact below_drewN hbR3 _⟩
       case measure=>simp [intOf]
    ·have E:=Lib.hid (HT.out (by unfold fineT; rw [hfi.out.1 (by omega),hfi.out.2.1 (by omega),hfi.out.2.2 (by omega)]; rfl))
     clear HT HX0 HX1 HX2 HRU HRL HNC HBAD
     go_wp2
     go_roundw
     case rel=>exact ⟨k+1,by omega,by go_num,E,bn hb hbx⟩
     case measure=>simp [intOf]; omega
  ·obtain rfl : k=n:=by omega
   rw [HTE.out] at hd
   have E:=Lib.hid (HO2.out (HFINE.out hd.out))
   clear hd
   go_wp2
   go_ret
   exact ⟨ret_i64 E.out.symm,hb⟩
end Go.Proofs.YtbnbaokamccmjaaGreatDoor

/- garboardref12: Reverse, Join. -/
namespace Go.Proofs.YtbnbaokamccmjaaGreatDoor
open Go Go.RowKit
end Go.Proofs.YtbnbaokamccmjaaGreatDoor
