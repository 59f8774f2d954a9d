/- mesh: points, Points. -/
import Derived.Test.YtbnbaokamccmjaaGreatDoorEB
import Derived.Test.YtbnbaokamccmjaaGreatDoorEA
import Derived.Lib.SliceRun
import Derived.Test.YtbnbaokamccmjaaGreatDoorE9
set_option linter.unusedVariables false
set_option linter.unusedSimpArgs false
namespace Go.Proofs.YtbnbaokamccmjaaGreatDoor
open Go Go.RowKit
open Go.ChangeMaps (setBlock)
theorem own_setBlock {W : World} {mb base sz n : Nat} {e : TypeId} {v : Value} {xs : List Value} {m : Array MapEntry} {c : Nat} {o : Obj} (h : W.ownsRow base e sz v n xs) (hb : W.heap[mb]?=some (.map m c)) : (setBlock W mb o).ownsRow base e sz v n xs:=by
 refine ⟨h.1, ?_⟩
 rcases h.2 with h2 | ⟨g,cap,cur,h1,h2,h3,h4⟩
 ·exact .inl h2
 ·have hne : g≠mb:=by
   intro e
   rw [e,hb] at h3
   cases h3
  exact .inr ⟨g,cap,cur,h1,h2,(setBlock_far hne).trans h3,h4⟩
theorem map_grown {W W1 : World} {mb base sz n : Nat} {e : TypeId} {v : Value} {xs : List Value} {m : Array MapEntry} {c : Nat} (h : W.ownsRow base e sz v n xs) (hb : W.heap[mb]?=some (.map m c)) (hg : W.grownBy W1 v.ownBlock) : W1.heap[mb]?=some (.map m c):=by
 refine (hg.block mb (Array.getElem?_eq_some_iff.1 hb).1 ?_).trans hb
 intro hv
 rcases h.2 with ⟨rfl,_⟩ | ⟨g,cap,cur,rfl,_,h3,_⟩
 ·cases hv
 ·have : mb=g:=Option.some.inj hv
  rw [← this,hb] at h3
  cases h3
theorem under_vm : Tryz.prog.underlying 146=some (.map 25 4):=Tryz.underlying146
theorem zero_bool (w : World) : (zeroValue 4).run Tryz.prog w=.ok (bv false) w:=by unfold bv; kernel_rfl
def seenM (out : List SV) : List (SV × Bool):=out.map fun s=>(s,true)
theorem seenM_get (out : List SV) (s : SV) : (kget (seenM out) s).getD false=decide (s ∈ out):=by
 induction out with
 | nil=>rfl
 | cons a out ih =>
  by_cases h : s=a
  ·have : kget (seenM (a :: out)) s=some true:=by simp [seenM,kget,h]
   rw [this]
   simp [h]
  ·have : kget (seenM (a :: out)) s=kget (seenM out) s:=by simp [seenM,kget,h]
   rw [this,ih]
   simp [h]
theorem seenM_set {out : List SV} {s : SV} (h : s ∉ out) : kset (seenM out) s true=seenM (out++[s]):=by
 induction out with
 | nil=>rfl
 | cons a out ih =>
  have h1 : s≠a:=fun e=>h (by simp [e])
  have h2 : s ∉ out:=fun e=>h (by simp [e])
  show kset ((a,true) :: seenM out) s true=_
  rw [kset,if_neg h1,ih h2]
  rfl
theorem vm_lookup {W : World} {mb : Nat} {out : List SV} (h : W.heap[mb]?=some (Mo SV.val bv (seenM out))) (s : SV) :
  (Instr.lookup 146 (.map (some mb)) (.agg #[.string s.x,.string s.y,.string s.z]) false).run Tryz.prog W=.ok (.bool (decide (s ∈ out))) W:=by
 have:=mo_lookup (g:=bv) kl_vec under_vm h s false (zero_bool W) false
 rw [seenM_get] at this
 exact this
theorem vm_update {W : World} {mb : Nat} {out : List SV} (h : W.heap[mb]?=some (Mo SV.val bv (seenM out))) {s : SV} (hs : s ∉ out) :
  (Instr.mapUpdate 146 (.map (some mb)) (.agg #[.string s.x,.string s.y,.string s.z]) (.bool true)).run Tryz.prog W=.ok () (setBlock W mb (Mo SV.val bv (seenM (out++[s])))):=by
 have:=mo_update (g:=bv) kl_vec under_vm h s true
 rw [seenM_set hs] at this
 exact this
theorem nub_in {l : List SV} {s : SV} (h : s ∈ nub l) : nub (l++[s])=nub l:=by rw [nub_snoc,nubStep,if_pos h]
theorem nub_out {l : List SV} {s : SV} (h : s ∉ nub l) : nub (l++[s])=nub l++[s]:=by rw [nub_snoc,nubStep,if_neg h]
theorem take_pts {l : List TV} {k : Nat} {t : TV} (hk : l[k]?=some t) : tpts (l.take (k+1))=tpts (l.take k)++[t.a]++[t.b]++[t.c]:=by
 have hlt : k<l.length:=(List.getElem?_eq_some_iff.1 hk).1
 have e : l[k]=t:=(List.getElem?_eq_some_iff.1 hk).2
 rw [List.take_succ_eq_append_getElem hlt,e]
 unfold tpts
 rw [List.flatMap_append]
 simp [Tr.pts]
set_option maxHeartbeats 4000000 in
set_option maxRecDepth 100000 in
theorem points_walk (v : Value) (l : List TV) (w : World) (hB : Bw w) (hv : Ts w v l) (hm : l.length≤1000000) :
  Calls Tryz.prog 73 #[v] w (Ret fun u w'=>Vs w' u (pointsL l)∧Below w.heap.size w w'):=by
 obtain ⟨A,cap,rfl,hn,hc,hcell⟩:=hv.open
 have HCL:=Lib.hid hcell
 have HTE:=Lib.hid (show l.take l.length=l from List.take_length)
 obtain ⟨n,hn0⟩ : ∃ n,n=l.length:=⟨_,rfl⟩
 have HG:=Lib.hid (fun k (hk : k<n)=>(show ∃ t,l[k]?=some t from ⟨_,List.getElem?_eq_getElem (by rw [← hn0]; exact hk)⟩))
 have HNL:=Lib.hid (fun k=>(show (nub (tpts (l.take k))).length≤n * 3 from by
  have h1:=nub_length (tpts (l.take k))
  rw [tpts_length] at h1
  have:=List.length_take_le k l
  have h2 : (l.take k).length≤l.length:=by rw [List.length_take]; omega
  omega))
 rw [← hn0] at hn hm HCL HTE ⊢
 clear hn0 hv hcell
 have ix0:=ix_tri0
 have ix1:=ix_tri1
 have ix2:=ix_tri2
 have hmm:=@run_makeMap Tryz.prog
 go_enter Tryz.func73,Tryz.ntmps73
 go_wp2
 obtain ⟨mb,hmb⟩ : ∃ mb,mb=w.heap.size:=⟨_,rfl⟩
 have h0 : (w.alloc (.map #[] 0)).heap[mb]?=some (Mo SV.val bv (seenM [])):=by rw [hmb]; exact heap_new w _
 have hmb1 : w.heap.size≤mb:=by omega
 rw [← hmb]
 clear hmb hmm
 go_loopw [3,12] (fun ov ii wr=>∃ i : Nat,i≤n∧ii=.int .i64 i∧wr.heap[mb]?=some (Mo SV.val bv (seenM (nub (tpts (l.take i)))))∧Hid (wr.ownsRow w.heap.size 25 3 ov (nub (tpts (l.take i))).length (svs (nub (tpts (l.take i)))))∧Below w.heap.size w wr) (fun _ ii _=>n - (intOf ii).toNat)
 case atStart=>exact ⟨0,Nat.zero_le _,rfl,h0,Lib.hid (World.ownsRow_nil _ _ _ _),ba (br w)⟩
 case round =>
  obtain ⟨i,hi,rfl,hm2,hown,hb⟩:=hrel
  have hsz:=hb.size
  by_cases hlt : i<n
  ·obtain ⟨t,hg⟩:=HG.out i hlt
   obtain ⟨b,off,rfl,hcl⟩:=HCL.out (by omega)
   obtain ⟨c0,c1,c2,c3,c4,c5,c6,c7,c8⟩:=ts_nine (hcl _ _ hg)
   have d0:=cell_below hb c0
   have d1:=cell_below hb c1
   have d2:=cell_below hb c2
   have d3:=cell_below hb c3
   have d4:=cell_below hb c4
   have d5:=cell_below hb c5
   have d6:=cell_below hb c6
   have d7:=cell_below hb c7
   have d8:=cell_below hb c8
   have HE:=Lib.hid (take_pts hg)
   have HL:=Lib.hid (HNL.out i)
   clear hg hcl c0 c1 c2 c3 c4 c5 c6 c7 c8 h0
   obtain ⟨pa,pb,pc⟩:=t
   dsimp only at d0 d1 d2 d3 d4 d5 d6 d7 d8 HE
   have hi0 : (0 : Int)≤(i : Int):=by omega
   have hin : (i : Int)<(n : Int):=by omega
   obtain ⟨es,hes⟩ : ∃ es,es=tpts (l.take i):=⟨_,rfl⟩
   rw [← hes] at hm2 hown HE HL
   clear hes
   have HL0 : Hid ((nub es).length≤3000000):=Lib.hid (by have:=HL.out; omega)
   go_wp2
   obtain ⟨V0,hV0⟩ : ∃ V0,V0=wr.alloc (.cells #[.string pa.x,.string pa.y,.string pa.z,.string pb.x,.string pb.y,.string pb.z,.string pc.x,.string pc.y,.string pc.z] 43):=⟨_,rfl⟩
   rw [← hV0]
   have m0 : V0.heap[mb]?=some (Mo SV.val bv (seenM (nub es))):=by rw [hV0]; exact mp_alloc hm2
   have b0 : Below w.heap.size w V0:=by rw [hV0]; exact ba hb
   have o0 : Hid (V0.ownsRow w.heap.size 25 3 u3 (nub es).length (svs (nub es))):=by rw [hV0]; exact Lib.hid (hown.out.alloc _)
   clear hm2 hb hown hV0 d0 d1 d2 d3 d4 d5 d6 d7 d8
   refine wp_loop_rounds 4 ?_
   rw [rounds_succ]
   go_upto_block 3 with fail
   go_cut [3] (fun sx1 wx=>wx.heap[mb]?=some (Mo SV.val bv (seenM (nub (es++[pa]))))∧Hid (wx.ownsRow w.heap.size 25 3 sx1 (nub (es++[pa])).length (svs (nub (es++[pa]))))∧Below w.heap.size w wx)
   case first =>
    have hsv:=b0.size
    obtain ⟨W,hW⟩ : ∃ W,W=V0.alloc (.cells #[.string pa.x,.string pa.y,.string pa.z] 25):=⟨_,rfl⟩
    have mW : W.heap[mb]?=some (Mo SV.val bv (seenM (nub (es)))):=by rw [hW]; exact mp_alloc m0
    have lk:=vm_lookup mW pa
    have oW : W.ownsRow w.heap.size 25 3 u3 (nub (es)).length (svs (nub (es))):=by rw [hW]; exact o0.out.alloc _
    have bW : Below w.heap.size w W:=by rw [hW]; exact ba b0
    by_cases hin : pa ∈ nub (es)
    ·rw [decide_eq_true hin] at lk
     have HR : Hid (W.heap[mb]?=some (Mo SV.val bv (seenM (nub (es++[pa]))))∧W.ownsRow w.heap.size 25 3 u3 (nub (es++[pa])).length (svs (nub (es++[pa])))∧Below w.heap.size w W):=Lib.hid (by rw [nub_in hin]; exact ⟨mW,oW,bW⟩)
     rw [hW] at lk HR
     clear hin mW oW bW hW
     go_wp2
     go_meet
     exact ⟨HR.out.1,Lib.hid HR.out.2.1,HR.out.2.2⟩
    ·rw [decide_eq_false hin] at lk
     have up:=vm_update mW hin
     obtain ⟨M2,hM2⟩ : ∃ M2,M2=Mo SV.val bv (seenM (nub (es)++[pa])):=⟨_,rfl⟩
     rw [← hM2] at up
     have oX:=own_setBlock (o:=M2) oW mW
     have bX:=below_setBlock bW hmb1 M2
     have hX:=setBlock_heap (o':=M2) mW
     have qX : ∀ c u,W.cell? ⟨V0.heap.size,c,none⟩=some u→(setBlock W mb M2).cell? ⟨V0.heap.size,c,none⟩=some u:=fun c u h=>cell_setBlock mW h
     have x0:=qX 0 (.string pa.x) (by rw [hW]; go_simp)
     have x1:=qX 1 (.string pa.y) (by rw [hW]; go_simp)
     have x2:=qX 2 (.string pa.z) (by rw [hW]; go_simp)
     have HM2:=Lib.hid hM2
     have HNO:=Lib.hid (nub_out hin)
     obtain ⟨X,hX0⟩ : ∃ X,X=setBlock W mb M2:=⟨_,rfl⟩
     rw [← hX0] at up oX bX hX x0 x1 x2
     rw [hW] at lk up
     have HOX:=Lib.hid oX
     have HHX:=Lib.hid hX
     have hsx:=bX.size
     have zV : V0.heap.size<X.heap.size:=World.block_lt_of_cell? X _ x0
     clear hin mW oW bW hM2 qX hX0 oX hX hW
     go_wp2_with (at_builtin; refine append_at (w0:=w) w.heap.size rfl (.tmp 26) (.tmp 28) 22 25 _ 3 48 rfl Tryz.underlying22 info_vec rfl (by omega) (by omega) _ (nub (es)).length 1 (svs (nub (es))) [.string pa.x,.string pa.y,.string pa.z] rfl X.heap.size rfl (by omega) rfl (by simp [Value.oneCell']) (HOX.out.alloc _) (box_at _ _ rfl) (ba bX) (by (try simp)<;>omega) (by have:=HL0.out; omega) ?_; intro v1 w1 hown1 hb1 hg1)
     have HR : Hid (w1.heap[mb]?=some (Mo SV.val bv (seenM (nub (es++[pa]))))∧w1.ownsRow w.heap.size 25 3 v1 (nub (es++[pa])).length (svs (nub (es++[pa])))∧Below w.heap.size w w1):=Lib.hid (by
      rw [HNO.out,List.length_append,svs_append]
      refine ⟨?_,hown1,hb1⟩
      have h5:=HHX.out
      rw [HM2.out] at h5
      exact map_grown (HOX.out.alloc _) (mp_alloc h5) hg1)
     clear hown1 hb1 hg1
     go_wp2
     go_meet
     exact ⟨HR.out.1,Lib.hid HR.out.2.1,HR.out.2.2⟩
   obtain ⟨m1,o1,b1⟩:=hcut
   obtain ⟨V1,hWW⟩ : ∃ x,x=wc:=⟨_,rfl⟩
   subst hWW
   have HL1 : Hid ((nub (es++[pa])).length≤3000001):=Lib.hid (by have:=HL0.out; rw [nub_snoc]; unfold nubStep; split<;>(try rw [List.length_append])<;>(try simp only [List.length_singleton])<;>omega)
   go_wp2
   rw [rounds_succ]
   go_upto_block 3 with fail
   go_cut [3] (fun sx2 wx=>wx.heap[mb]?=some (Mo SV.val bv (seenM (nub (es++[pa]++[pb]))))∧Hid (wx.ownsRow w.heap.size 25 3 sx2 (nub (es++[pa]++[pb])).length (svs (nub (es++[pa]++[pb]))))∧Below w.heap.size w wx)
   case first =>
    have hsv:=b1.size
    obtain ⟨W,hW⟩ : ∃ W,W=V1.alloc (.cells #[.string pb.x,.string pb.y,.string pb.z] 25):=⟨_,rfl⟩
    have mW : W.heap[mb]?=some (Mo SV.val bv (seenM (nub (es++[pa])))):=by rw [hW]; exact mp_alloc m1
    have lk:=vm_lookup mW pb
    have oW : W.ownsRow w.heap.size 25 3 u3 (nub (es++[pa])).length (svs (nub (es++[pa]))):=by rw [hW]; exact o1.out.alloc _
    have bW : Below w.heap.size w W:=by rw [hW]; exact ba b1
    by_cases hin : pb ∈ nub (es++[pa])
    ·rw [decide_eq_true hin] at lk
     have HR : Hid (W.heap[mb]?=some (Mo SV.val bv (seenM (nub (es++[pa]++[pb]))))∧W.ownsRow w.heap.size 25 3 u3 (nub (es++[pa]++[pb])).length (svs (nub (es++[pa]++[pb])))∧Below w.heap.size w W):=Lib.hid (by rw [nub_in hin]; exact ⟨mW,oW,bW⟩)
     rw [hW] at lk HR
     clear hin mW oW bW hW
     go_wp2
     go_meet
     exact ⟨HR.out.1,Lib.hid HR.out.2.1,HR.out.2.2⟩
    ·rw [decide_eq_false hin] at lk
     have up:=vm_update mW hin
     obtain ⟨M2,hM2⟩ : ∃ M2,M2=Mo SV.val bv (seenM (nub (es++[pa])++[pb])):=⟨_,rfl⟩
     rw [← hM2] at up
     have oX:=own_setBlock (o:=M2) oW mW
     have bX:=below_setBlock bW hmb1 M2
     have hX:=setBlock_heap (o':=M2) mW
     have qX : ∀ c u,W.cell? ⟨V1.heap.size,c,none⟩=some u→(setBlock W mb M2).cell? ⟨V1.heap.size,c,none⟩=some u:=fun c u h=>cell_setBlock mW h
     have x0:=qX 0 (.string pb.x) (by rw [hW]; go_simp)
     have x1:=qX 1 (.string pb.y) (by rw [hW]; go_simp)
     have x2:=qX 2 (.string pb.z) (by rw [hW]; go_simp)
     have HM2:=Lib.hid hM2
     have HNO:=Lib.hid (nub_out hin)
     obtain ⟨X,hX0⟩ : ∃ X,X=setBlock W mb M2:=⟨_,rfl⟩
     rw [← hX0] at up oX bX hX x0 x1 x2
     rw [hW] at lk up
     have HOX:=Lib.hid oX
     have HHX:=Lib.hid hX
     have hsx:=bX.size
     have zV : V1.heap.size<X.heap.size:=World.block_lt_of_cell? X _ x0
     clear hin mW oW bW hM2 qX hX0 oX hX hW
     go_wp2_with (at_builtin; refine append_at (w0:=w) w.heap.size rfl (.tmp 26) (.tmp 28) 22 25 _ 3 48 rfl Tryz.underlying22 info_vec rfl (by omega) (by omega) _ (nub (es++[pa])).length 1 (svs (nub (es++[pa]))) [.string pb.x,.string pb.y,.string pb.z] rfl X.heap.size rfl (by omega) rfl (by simp [Value.oneCell']) (HOX.out.alloc _) (box_at _ _ rfl) (ba bX) (by (try simp)<;>omega) (by have:=HL1.out; omega) ?_; intro v1 w1 hown1 hb1 hg1)
     have HR : Hid (w1.heap[mb]?=some (Mo SV.val bv (seenM (nub (es++[pa]++[pb]))))∧w1.ownsRow w.heap.size 25 3 v1 (nub (es++[pa]++[pb])).length (svs (nub (es++[pa]++[pb])))∧Below w.heap.size w w1):=Lib.hid (by
      rw [HNO.out,List.length_append,svs_append]
      refine ⟨?_,hown1,hb1⟩
      have h5:=HHX.out
      rw [HM2.out] at h5
      exact map_grown (HOX.out.alloc _) (mp_alloc h5) hg1)
     clear hown1 hb1 hg1
     go_wp2
     go_meet
     exact ⟨HR.out.1,Lib.hid HR.out.2.1,HR.out.2.2⟩
   obtain ⟨m2,o2,b2⟩:=hcut
   obtain ⟨V2,hWW⟩ : ∃ x,x=wc:=⟨_,rfl⟩
   subst hWW
   have HL2 : Hid ((nub (es++[pa]++[pb])).length≤3000002):=Lib.hid (by have:=HL1.out; rw [nub_snoc]; unfold nubStep; split<;>(try rw [List.length_append])<;>(try simp only [List.length_singleton])<;>omega)
   go_wp2
   rw [rounds_succ]
   go_upto_block 3 with fail
   go_cut [3] (fun sx3 wx=>wx.heap[mb]?=some (Mo SV.val bv (seenM (nub (es++[pa]++[pb]++[pc]))))∧Hid (wx.ownsRow w.heap.size 25 3 sx3 (nub (es++[pa]++[pb]++[pc])).length (svs (nub (es++[pa]++[pb]++[pc]))))∧Below w.heap.size w wx)
   case first =>
    have hsv:=b2.size
    obtain ⟨W,hW⟩ : ∃ W,W=V2.alloc (.cells #[.string pc.x,.string pc.y,.string pc.z] 25):=⟨_,rfl⟩
    have mW : W.heap[mb]?=some (Mo SV.val bv (seenM (nub (es++[pa]++[pb])))):=by rw [hW]; exact mp_alloc m2
    have lk:=vm_lookup mW pc
    have oW : W.ownsRow w.heap.size 25 3 u3 (nub (es++[pa]++[pb])).length (svs (nub (es++[pa]++[pb]))):=by rw [hW]; exact o2.out.alloc _
    have bW : Below w.heap.size w W:=by rw [hW]; exact ba b2
    by_cases hin : pc ∈ nub (es++[pa]++[pb])
    ·rw [decide_eq_true hin] at lk
     have HR : Hid (W.heap[mb]?=some (Mo SV.val bv (seenM (nub (es++[pa]++[pb]++[pc]))))∧W.ownsRow w.heap.size 25 3 u3 (nub (es++[pa]++[pb]++[pc])).length (svs (nub (es++[pa]++[pb]++[pc])))∧Below w.heap.size w W):=Lib.hid (by rw [nub_in hin]; exact ⟨mW,oW,bW⟩)
     rw [hW] at lk HR
     clear hin mW oW bW hW
     go_wp2
     go_meet
     exact ⟨HR.out.1,Lib.hid HR.out.2.1,HR.out.2.2⟩
    ·rw [decide_eq_false hin] at lk
     have up:=vm_update mW hin
     obtain ⟨M2,hM2⟩ : ∃ M2,M2=Mo SV.val bv (seenM (nub (es++[pa]++[pb])++[pc])):=⟨_,rfl⟩
     rw [← hM2] at up
     have oX:=own_setBlock (o:=M2) oW mW
     have bX:=below_setBlock bW hmb1 M2
     have hX:=setBlock_heap (o':=M2) mW
     have qX : ∀ c u,W.cell? ⟨V2.heap.size,c,none⟩=some u→(setBlock W mb M2).cell? ⟨V2.heap.size,c,none⟩=some u:=fun c u h=>cell_setBlock mW h
     have x0:=qX 0 (.string pc.x) (by rw [hW]; go_simp)
     have x1:=qX 1 (.string pc.y) (by rw [hW]; go_simp)
     have x2:=qX 2 (.string pc.z) (by rw [hW]; go_simp)
     have HM2:=Lib.hid hM2
     have HNO:=Lib.hid (nub_out hin)
     obtain ⟨X,hX0⟩ : ∃ X,X=setBlock W mb M2:=⟨_,rfl⟩
     rw [← hX0] at up oX bX hX x0 x1 x2
     rw [hW] at lk up
     have HOX:=Lib.hid oX
     have HHX:=Lib.hid hX
     have hsx:=bX.size
     have zV : V2.heap.size<X.heap.size:=World.block_lt_of_cell? X _ x0
     clear hin mW oW bW hM2 qX hX0 oX hX hW
     go_wp2_with (at_builtin; refine append_at (w0:=w) w.heap.size rfl (.tmp 26) (.tmp 28) 22 25 _ 3 48 rfl Tryz.underlying22 info_vec rfl (by omega) (by omega) _ (nub (es++[pa]++[pb])).length 1 (svs (nub (es++[pa]++[pb]))) [.string pc.x,.string pc.y,.string pc.z] rfl X.heap.size rfl (by omega) rfl (by simp [Value.oneCell']) (HOX.out.alloc _) (box_at _ _ rfl) (ba bX) (by (try simp)<;>omega) (by have:=HL2.out; omega) ?_; intro v1 w1 hown1 hb1 hg1)
     have HR : Hid (w1.heap[mb]?=some (Mo SV.val bv (seenM (nub (es++[pa]++[pb]++[pc]))))∧w1.ownsRow w.heap.size 25 3 v1 (nub (es++[pa]++[pb]++[pc])).length (svs (nub (es++[pa]++[pb]++[pc])))∧Below w.heap.size w w1):=Lib.hid (by
      rw [HNO.out,List.length_append,svs_append]
      refine ⟨?_,hown1,hb1⟩
      have h5:=HHX.out
      rw [HM2.out] at h5
      exact map_grown (HOX.out.alloc _) (mp_alloc h5) hg1)
     clear hown1 hb1 hg1
     go_wp2
     go_meet
     exact ⟨HR.out.1,Lib.hid HR.out.2.1,HR.out.2.2⟩
   obtain ⟨m3,o3,b3⟩:=hcut
   obtain ⟨V3,hWW⟩ : ∃ x,x=wc:=⟨_,rfl⟩
   subst hWW
   have HL3 : Hid ((nub (es++[pa]++[pb]++[pc])).length≤3000003):=Lib.hid (by have:=HL2.out; rw [nub_snoc]; unfold nubStep; split<;>(try rw [List.length_append])<;>(try simp only [List.length_singleton])<;>omega)
   go_wp2
   rw [rounds_succ]
   go_wp2
   go_roundw
   case rel=>exact ⟨i+1,by omega,by go_num,by rw [HE.out]; exact m3,by rw [HE.out]; exact o3,b3⟩
   case measure=>simp [intOf]; omega
  ·obtain rfl : i=n:=by omega
   rw [HTE.out] at hown
   have HV : Hid (Vs wr u3 (pointsL l)):=Lib.hid (Vs.own hown.out)
   clear hown
   go_wp2
   go_ret
   exact ⟨_,rfl,HV.out,hb⟩
end Go.Proofs.YtbnbaokamccmjaaGreatDoor

/- mesh: Points, Reverse, Join. -/
namespace Go.Proofs.YtbnbaokamccmjaaGreatDoor
open Go Go.RowKit
set_option maxHeartbeats 1000000 in
theorem mPoints_bad (v : Value) (l : List TV) (z : Int) (w : World) (hB : Bw w) (hv : Ts w v l) (hs : tle l 40000000) (hz : chkC l=z) (h0 : z≠0) :
  Calls Tryz.prog 35 #[v] w fun e w'=>e=.returned (.tuple #[.slice none 0 0,.int .i64 z])∧Below w.heap.size w w':=by
 have H:=Lib.hid (fun w hB hv=>check_walk v l w hB hv hs)
 rw [hz] at H
 obtain ⟨A,cap,rfl,hn,hc,hcell⟩:=hv.open
 clear hcell hn hc hs hz
 go_enter Tryz.func35,Tryz.ntmps35
 go_wp2_with fail
 refine (H.out _ (hB.below bel) (hv.below bel)).mono ?_
 rintro e w1 ⟨rfl,g1⟩
 have B1:=bn (w:=w) bel g1
 clear g1
 go_wp2
 go_ret2
 exact ⟨rfl,bel⟩
set_option maxHeartbeats 1000000 in
theorem mPoints_ok (v : Value) (l : List TV) (w : World) (hB : Bw w) (hv : Ts w v l) (hs : tle l 40000000) (hz : chkC l=0) :
  Calls Tryz.prog 35 #[v] w (Ret fun r w'=>(∃ u,r=.tuple #[u,.int .i64 0]∧Vs w' u (pointsL l))∧Below w.heap.size w w'):=by
 have H:=Lib.hid (fun w hB hv=>check_walk v l w hB hv hs)
 have hp:=chkC_zero hz
 have H2:=Lib.hid (fun w hB hv=>points_walk v l w hB hv (by omega))
 rw [hz] at H
 obtain ⟨A,cap,rfl,hn,hc,hcell⟩:=hv.open
 clear hcell hn hc hs hz hp
 go_enter Tryz.func35,Tryz.ntmps35
 go_wp2_with fail
 refine (H.out _ (hB.below bel) (hv.below bel)).mono ?_
 rintro e w1 ⟨rfl,g1⟩
 have B1:=bn (w:=w) bel g1
 clear g1
 go_wp2_with fail
 refine (H2.out _ (hB.below bel) (hv.below bel)).mono ?_
 rintro e w2 ⟨u,rfl,hu,g2⟩
 have B2:=bn (w:=w) bel g2
 clear g2
 obtain ⟨A2,cap2,rfl, -, -, -⟩:=hu.open
 go_wp2
 go_ret2
 exact ⟨_,rfl,⟨_,rfl,hu⟩,bel⟩
set_option maxHeartbeats 1000000 in
theorem mReverse_ok (v : Value) (l : List TV) (w : World) (hB : Bw w) (hv : Ts w v l) (hs : tle l 40000000) (hz : chkC l=0) :
  Calls Tryz.prog 24 #[v] w (Ret fun r w'=>(∃ u,r=.tuple #[u,.int .i64 0]∧Ts w' u (l.map Tr.turn))∧Below w.heap.size w w'):=by
 have H:=Lib.hid (fun w hB hv=>check_walk v l w hB hv hs)
 have hp:=chkC_zero hz
 have H2:=Lib.hid (fun w hB hv=>turned_walk v l w hB hv (by omega))
 rw [hz] at H
 obtain ⟨A,cap,rfl,hn,hc,hcell⟩:=hv.open
 clear hcell hn hc hs hz hp
 go_enter Tryz.func24,Tryz.ntmps24
 go_wp2_with fail
 refine (H.out _ (hB.below bel) (hv.below bel)).mono ?_
 rintro e w1 ⟨rfl,g1⟩
 have B1:=bn (w:=w) bel g1
 clear g1
 go_wp2_with fail
 refine (H2.out _ (hB.below bel) (hv.below bel)).mono ?_
 rintro e w2 ⟨u,rfl,hu,g2⟩
 have B2:=bn (w:=w) bel g2
 clear g2
 obtain ⟨A2,cap2,rfl, -, -, -⟩:=hu.open
 rw [List.length_map] at hu ⊢
 go_wp2
 go_ret2
 exact ⟨_,rfl,⟨_,rfl,hu⟩,bel⟩
set_option maxHeartbeats 2000000 in
set_option maxRecDepth 100000 in
theorem mJoin_ok (v1 v2 : Value) (l1 l2 : List TV) (w : World) (hB : Bw w) (hv1 : Ts w v1 l1) (hv2 : Ts w v2 l2) (hs1 : tle l1 40000000) (hs2 : tle l2 40000000) (hz1 : chkC l1=0) (hz2 : chkC l2=0) (hn : l1.length+l2.length≤512) :
  Calls Tryz.prog 28 #[v1,v2] w (Ret fun r w'=>(∃ u,r=.tuple #[u,.int .i64 0]∧Ts w' u (l1++l2))∧Below w.heap.size w w'):=by
 have H1:=Lib.hid (fun w hB hv=>check_walk v1 l1 w hB hv hs1)
 have H2:=Lib.hid (fun w hB hv=>check_walk v2 l2 w hB hv hs2)
 have H3:=Lib.hid (fun p w h1 h2 c0 c1=>concatS_walk p v1 v2 l1 l2 (by omega) (by omega) w h1 h2 c0 c1)
 rw [hz1] at H1
 rw [hz2] at H2
 obtain ⟨A1,cap1,rfl,hn1,hc1,hcell1⟩:=hv1.open
 obtain ⟨A2,cap2,rfl,hn2,hc2,hcell2⟩:=hv2.open
 have HV1:=Lib.hid hv1
 have HV2:=Lib.hid hv2
 clear hcell1 hcell2 hs1 hs2 hz1 hz2 hc1 hc2 hn1 hn2 hv1 hv2
 have hw1 : (l1.length : Int) + (l2.length : Int)≤512:=by omega
 have hw2 : wrap64 ((l1.length : Int) + (l2.length : Int))=(l1.length : Int) + (l2.length : Int):=by unfold wrap64; omega
 clear hn
 go_enter Tryz.func28,Tryz.ntmps28
 go_wp2
 refine wp_loop_rounds 3 ?_
 rw [rounds_succ]
 go_wp2_with fail
 refine (H1.out _ (hB.below bel) (HV1.out.below bel)).mono ?_
 rintro e w1 ⟨rfl,g1⟩
 have c0:=bc (b:=w.heap.size) (o:=0) (v:=.slice A1 l1.length cap1) g1 (by go_simp)
 have c1:=bc (b:=w.heap.size) (o:=1) (v:=.slice A2 l2.length cap2) g1 (by go_simp)
 have B1:=bn (w:=w) bel g1
 clear g1
 go_wp2
 rw [rounds_succ]
 go_wp2_with fail
 refine (H2.out _ (hB.below bel) (HV2.out.below bel)).mono ?_
 rintro e w2 ⟨rfl,g2⟩
 have B2:=bn (w:=w) bel g2
 clear g2
 clear c0 c1
 go_wp2
 rw [rounds_succ]
 go_wp2_with fail
 refine (H3.out w2.heap.size _ (HV1.out.below bel) (HV2.out.below bel) (by go_simp) (by go_simp)).mono ?_
 rintro e w3 ⟨u,rfl,hu,g3⟩
 have B3:=bn (w:=w) bel g3
 clear g3
 have hu2:=Ts.own hu
 obtain ⟨A3,cap3,rfl, -, -, -⟩:=hu2.open
 rw [List.length_append] at hu2 ⊢
 have HU:=Lib.hid hu2
 clear hu hu2
 go_wp2
 go_ret2
 exact ⟨_,rfl,⟨_,rfl,HU.out⟩,bel⟩
end Go.Proofs.YtbnbaokamccmjaaGreatDoor

/- mesh: Convex. -/
namespace Go.Proofs.YtbnbaokamccmjaaGreatDoor
open Go Go.RowKit
def txt (t : Tr V3) : TV:=Tr.map txv t
theorem txv_apart (x y : V3) (h : txv x=txv y) : x=y:=txv_inj h
def under (ps : List V3) (t : Tr V3) : Bool:=decide (thrN t.a t.b t.c=V3.zero) || ps.all fun p=>decide ((thrP t.a t.b t.c).height p≤0)
theorem convexL_eq (L : List (Tr V3)) : convexL L=L.all (under (pointsL L)):=rfl
theorem rsg_pos {x : Rat} (h : 0<rsg x) : ¬ x≤0:=by
 unfold rsg rcmp at h
 intro hx
 by_cases h1 : x<0
 ·rw [if_pos h1] at h; omega
 ·by_cases h2 : x=0
  ·rw [if_neg h1,if_pos h2] at h; omega
  ·exact h2 (by grind)
theorem rsg_npos {x : Rat} (h : ¬ 0<rsg x) : x≤0:=by
 unfold rsg rcmp at h
 by_cases h1 : x<0
 ·grind
 ·by_cases h2 : x=0
  ·grind
  ·rw [if_neg h1,if_neg h2] at h
   omega
theorem points_txt (L : List (Tr V3)) : pointsL (L.map txt)=tvs (pointsL L):=pointsL_map (f:=txv) txv_apart L
theorem tle_txt {L : List (Tr V3)} {k m : Nat} (h : ∀ t ∈ L,t.a.le k∧t.b.le k∧t.c.le k) (hm : 2 * k+2≤m) : tle (L.map txt) m:=by
 intro t ht
 obtain ⟨u,hu,rfl⟩:=List.mem_map.1 ht
 obtain ⟨h1,h2,h3⟩:=h u hu
 have q : ∀ {a : V3},a.le k→(txv a).le m:=fun ha=>by
  have:=txv_le ha
  exact ⟨Nat.le_trans this.1 hm,Nat.le_trans this.2.1 hm,Nat.le_trans this.2.2 hm⟩
 exact ⟨q h1,q h2,q h3⟩
theorem mem_points {L : List (Tr V3)} {k : Nat} (h : ∀ t ∈ L,t.a.le k∧t.b.le k∧t.c.le k) : ∀ p ∈ pointsL L,p.le k:=by
 intro p hp
 unfold pointsL at hp
 rw [mem_nub] at hp
 unfold tpts at hp
 obtain ⟨t,ht,hp⟩:=List.mem_flatMap.1 hp
 simp only [Tr.pts,List.mem_cons,List.not_mem_nil,or_false] at hp
 obtain ⟨h1,h2,h3⟩:=h t ht
 rcases hp with rfl | rfl | rfl
 ·exact h1
 ·exact h2
 ·exact h3
theorem take_all {α : Type} {l : List α} {q : α→Bool} {k : Nat} {t : α} (hk : l[k]?=some t) (h : (l.take k).all q=true) (ht : q t=true) : (l.take (k+1)).all q=true:=by
 have hlt : k<l.length:=(List.getElem?_eq_some_iff.1 hk).1
 have e : l[k]=t:=(List.getElem?_eq_some_iff.1 hk).2
 rw [List.take_succ_eq_append_getElem hlt,List.all_append,h,e]
 simp [ht]
set_option maxHeartbeats 4000000 in
set_option maxRecDepth 100000 in
theorem convex_walk (v : Value) (L : List (Tr V3)) (w : World) (hB : Bw w) (hv : Ts w v (L.map txt)) (hs : ∀ t ∈ L,t.a.le 30000∧t.b.le 30000∧t.c.le 30000) (hz : chkC (L.map txt)=0) :
  Calls Tryz.prog 30 #[v] w fun e w'=>e=.returned (.tuple #[.bool (convexL L),.int .i64 0])∧Below w.heap.size w w':=by
 have hle:=tle_txt hs (show 2 * 30000+2≤40000000 by omega)
 have hp:=chkC_zero hz
 have hlen : (L.map txt).length=L.length:=List.length_map _
 have H1:=Lib.hid (fun w hB hv=>check_walk v (L.map txt) w hB hv hle)
 have H2:=Lib.hid (fun w hB hv=>points_walk v (L.map txt) w hB hv (by omega))
 rw [hz] at H1
 rw [points_txt] at H2
 have HB:=Lib.hid (mem_points hs)
 have HS:=Lib.hid hs
 have HV:=Lib.hid hv
 obtain ⟨A,cap,rfl,hn,hc,hcell⟩:=hv.open
 have HCL:=Lib.hid hcell
 rw [hlen] at hn H1 H2 HCL HV ⊢
 have hn512 : L.length≤512:=by omega
 clear hcell hp hlen hz hle hs hv
 obtain ⟨n,hn0⟩ : ∃ n,n=L.length:=⟨_,rfl⟩
 have HG:=Lib.hid (fun k (hk : k<n)=>(show ∃ t,L[k]?=some t from ⟨_,List.getElem?_eq_getElem (by rw [← hn0]; exact hk)⟩))
 have HTE:=Lib.hid (show L.take L.length=L from List.take_length)
 have HN0:=Lib.hid hn0
 rw [← hn0] at hn H1 H2 HCL HV HTE hn512 ⊢
 clear hn0
 have HCX:=Lib.hid (convexL_eq L)
 obtain ⟨ps,hps⟩ : ∃ ps,ps=pointsL L:=⟨_,rfl⟩
 rw [← hps] at H2 HB HCX
 clear hps
 go_enter Tryz.func30,Tryz.ntmps30
 go_wp2_with fail
 refine (H1.out _ (hB.below bel) (HV.out.below bel)).mono ?_
 rintro e w1 ⟨rfl,g1⟩
 have B1:=bn (w:=w) bel g1
 clear g1
 go_wp2_with fail
 refine (H2.out _ (hB.below bel) (HV.out.below bel)).mono ?_
 rintro e w2 ⟨u,rfl,hu,g2⟩
 have B2:=bn (w:=w) bel g2
 clear g2
 obtain ⟨Ap,capp,rfl,hnp,hcp,hcellp⟩:=hu.open
 rw [tvs_length] at *
 have HCP:=Lib.hid hcellp
 have HPE:=Lib.hid (show ps.take ps.length=ps from List.take_length)
 have HGP:=Lib.hid (fun j (hj : j<ps.length)=>(show ∃ p,ps[j]?=some p from ⟨_,List.getElem?_eq_getElem hj⟩))
 obtain ⟨m,hm0⟩ : ∃ m,m=ps.length:=⟨_,rfl⟩
 rw [← hm0] at hnp HCP HPE HGP ⊢
 clear hm0 hcellp hu
 go_wp2
 go_loopw [23] (fun ii wr=>∃ i : Nat,i≤n∧ii=.int .i64 i∧Hid ((L.take i).all (under ps)=true)∧Below w2.heap.size w2 wr) (fun ii _=>n - (intOf ii).toNat)
 case atStart=>exact ⟨0,Nat.zero_le _,rfl,Lib.hid rfl,Below.refl _ _⟩
 case round =>
  obtain ⟨i,hi,rfl,hd,hb⟩:=hrel
  have hsz:=hb.size
  have hbw : Below w.heap.size w wr:=bn B2 hb
  by_cases hlt : i<n
  ·obtain ⟨t,hg⟩:=HG.out i hlt
   obtain ⟨b,off,rfl,hcl⟩:=HCL.out (by omega)
   have hgt : (L.map txt)[i]?=some (txt t):=by rw [List.getElem?_map,hg]; rfl
   obtain ⟨c0,c1,c2,c3,c4,c5,c6,c7,c8⟩:=ts_nine (hcl _ _ hgt)
   obtain ⟨l1,l2,l3⟩:=HS.out t (List.mem_of_getElem? hg)
   have HTH:=Lib.hid (fun w hB=>vThrough_walk t.a t.b t.c (l1.mono (by omega)) (l2.mono (by omega)) (l3.mono (by omega)) w hB)
   have HSI:=Lib.hid (fun (hz : thrN t.a t.b t.c≠V3.zero) p (hp : p ∈ ps) w hB=>vSide_walk (thrP t.a t.b t.c) p hz (thrP_le l1 l2 l3 (by omega)) ((HB.out p hp).mono (by omega)) w hB)
   have HGD:=Lib.hid (fun (h : under ps t=true)=>take_all hg hd.out h)
   have HBD : Hid (under ps t=false→convexL L=false):=Lib.hid (fun h=>by rw [HCX.out]; exact List.all_eq_false.2 ⟨t,List.mem_of_getElem? hg,by rw [h]; decide⟩)
   have d0:=cell_below hbw c0
   have d1:=cell_below hbw c1
   have d2:=cell_below hbw c2
   have d3:=cell_below hbw c3
   have d4:=cell_below hbw c4
   have d5:=cell_below hbw c5
   have d6:=cell_below hbw c6
   have d7:=cell_below hbw c7
   have d8:=cell_below hbw c8
   clear hg hgt hcl l1 l2 l3 hd c0 c1 c2 c3 c4 c5 c6 c7 c8
   obtain ⟨ta,tb,tc⟩:=t
   have hi0 : (0 : Int)≤(i : Int):=by omega
   have hin : (i : Int)<(n : Int):=by omega
   simp only [txt,Tr.map,txv] at d0 d1 d2 d3 d4 d5 d6 d7 d8
   dsimp only at HTH HSI
   rw [VV_eq ta,VV_eq tb,VV_eq tc] at HTH
   generalize rtx ta.x=ax at *
   generalize rtx ta.y=ay at *
   generalize rtx ta.z=az at *
   generalize rtx tb.x=bx at *
   generalize rtx tb.y=by1 at *
   generalize rtx tb.z=bz at *
   generalize rtx tc.x=cx at *
   generalize rtx tc.y=cy at *
   generalize rtx tc.z=cz at *
   by_cases hz : thrN ta tb tc=V3.zero
   ·have E:=Lib.hid (HGD.out (by unfold under; simp [hz]))
    have e1 : thrE ta tb tc=16:=if_pos hz
    have e2 : thrV ta tb tc=.agg #[.string ⟨#[]⟩,.string ⟨#[]⟩,.string ⟨#[]⟩,.string ⟨#[]⟩]:=if_pos hz
    rw [e1,e2] at HTH
    clear HSI HGD HBD hz e1 e2
    go_wp2_with fail
    refine (HTH.out _ (hB.below bel)).mono ?_
    rintro e w3 ⟨rfl,g3⟩
    have hb3 : Below w2.heap.size w2 w3:=bn bel g3
    have hsz3:=hb3.size
    clear g3
    go_wp2
    go_roundw
    case rel=>exact ⟨i+1,by omega,by go_num,E,bel⟩
    case measure=>simp [intOf]; omega
   ·have e1 : thrE ta tb tc=0:=if_neg hz
    have e2 : thrV ta tb tc=PV (thrP ta tb tc):=if_neg hz
    have HSI2:=Lib.hid (fun p hp=>HSI.out hz p hp)
    have HGD2 : Hid ((∀ p ∈ ps,(thrP ta tb tc).height p≤0)→(L.take (i+1)).all (under ps)=true):=Lib.hid (fun h=>HGD.out (by
     unfold under
     rw [Bool.or_eq_true]
     right
     rw [List.all_eq_true]
     intro p hp
     exact decide_eq_true (h p hp)))
    have HBD2 : Hid (∀ p ∈ ps,¬ (thrP ta tb tc).height p≤0→convexL L=false):=Lib.hid (fun p hp h=>HBD.out (by
     unfold under
     rw [decide_eq_false hz,Bool.false_or]
     exact List.all_eq_false.2 ⟨p,hp,by simpa using h⟩))
    rw [e1,e2,PV_eq] at HTH
    clear HSI HGD HBD hz e1 e2
    rw [PV_eq] at HSI2
    generalize rtx (thrP ta tb tc).n.x=q1 at *
    generalize rtx (thrP ta tb tc).n.y=q2 at *
    generalize rtx (thrP ta tb tc).n.z=q3 at *
    generalize rtx (thrP ta tb tc).c=q4 at *
    go_wp2_with fail
    refine (HTH.out _ (hB.below bel)).mono ?_
    rintro e w3 ⟨rfl,g3⟩
    have hb3 : Below w2.heap.size w2 w3:=bn bel g3
    have hsz3:=hb3.size
    clear g3
    go_wp2
    obtain ⟨W,hW⟩ : ∃ W,W=w3.alloc (.cells #[.string q1,.string q2,.string q3,.string q4] 104):=⟨_,rfl⟩
    have p0 : W.cell? ⟨w3.heap.size,0,none⟩=some (.string q1):=by rw [hW]; go_simp
    have p1 : W.cell? ⟨w3.heap.size,1,none⟩=some (.string q2):=by rw [hW]; go_simp
    have p2 : W.cell? ⟨w3.heap.size,2,none⟩=some (.string q3):=by rw [hW]; go_simp
    have p3 : W.cell? ⟨w3.heap.size,3,none⟩=some (.string q4):=by rw [hW]; go_simp
    have bW : Below w2.heap.size w2 W:=by rw [hW]; exact ba hb3
    have bWw : Below w.heap.size w W:=bn B2 bW
    rw [← hW]
    clear hW d0 d1 d2 d3 d4 d5 d6 d7 d8
    obtain ⟨wo,hwo⟩ : ∃ x,x=wr:=⟨_,rfl⟩
    subst hwo
    go_loopw [41] (fun jj wr=>∃ j : Nat,j≤m∧jj=.int .i64 j∧Hid (∀ p ∈ ps.take j,(thrP ta tb tc).height p≤0)∧Below W.heap.size W wr) (fun jj _=>m - (intOf jj).toNat)
    case atStart=>exact ⟨0,Nat.zero_le _,rfl,Lib.hid (by simp),Below.refl _ _⟩
    case round =>
     obtain ⟨j,hj,rfl,hh,hb5⟩:=hrel
     have hsz5:=hb5.size
     have hbw5 : Below w.heap.size w wr:=bn bWw hb5
     have hb25 : Below w2.heap.size w2 wr:=bn bW hb5
     by_cases hlt2 : j<m
     ·obtain ⟨pt,hg⟩:=HGP.out j hlt2
      obtain ⟨b3,off3,rfl,hcl3⟩:=HCP.out (by omega)
      have hgp : (tvs ps)[j]?=some (txv pt):=by unfold tvs; rw [List.getElem?_map,hg]; rfl
      obtain ⟨x0,x1,x2⟩:=hcl3 _ _ hgp
      have y0:=cell_below hb25 x0
      have y1:=cell_below hb25 x1
      have y2:=cell_below hb25 x2
      have z0:=cell_below hb5 p0
      have z1:=cell_below hb5 p1
      have z2:=cell_below hb5 p2
      have z3:=cell_below hb5 p3
      have zl : w3.heap.size<wr.heap.size:=World.block_lt_of_cell? wr _ z0
      have HSD:=Lib.hid (fun w hB=>HSI2.out pt (List.mem_of_getElem? hg) w hB)
      have HN1 : Hid (0<rsg ((thrP ta tb tc).height pt)→convexL L=false):=Lib.hid (fun h=>HBD2.out pt (List.mem_of_getElem? hg) (rsg_pos h))
      have HN2 : Hid (¬ 0<rsg ((thrP ta tb tc).height pt)→∀ p ∈ ps.take (j+1),(thrP ta tb tc).height p≤0):=Lib.hid (fun h p hp=>by
       have hlt3 : j<ps.length:=(List.getElem?_eq_some_iff.1 hg).1
       have e : ps[j]=pt:=(List.getElem?_eq_some_iff.1 hg).2
       rw [List.take_succ_eq_append_getElem hlt3,e] at hp
       rcases List.mem_append.1 hp with hp | hp
       ·exact hh.out p hp
       ·simp at hp
        rw [hp]
        exact rsg_npos h)
      have hj0 : (0 : Int)≤(j : Int):=by omega
      have hjm : (j : Int)<(m : Int):=by omega
      clear x0 x1 x2 hgp hg hcl3 hh
      simp only [txv] at y0 y1 y2
      rw [VV_eq pt] at HSD
      generalize rtx pt.x=o1 at *
      generalize rtx pt.y=o2 at *
      generalize rtx pt.z=o3 at *
      generalize rsg ((thrP ta tb tc).height pt)=s at *
      go_wp2_with fail
      refine (HSD.out _ (hB.below bel)).mono ?_
      rintro e w6 ⟨rfl,g6⟩
      have hb6 : Below W.heap.size W w6:=bn bel g6
      have hbw6 : Below w.heap.size w w6:=bn bWw hb6
      clear g6
      by_cases hsp : 0<s
      ·have E:=Lib.hid (HN1.out hsp)
       clear HN1 HN2
       go_wp2
       go_ret2
       exact ⟨by rw [E.out]; rfl,hbw6⟩
      ·have E:=Lib.hid (HN2.out (Int.not_lt.1 hsp))
       have hsp2 : s≤0:=by omega
       clear HN1 HN2
       go_wp2
       go_roundw
       case rel=>exact ⟨j+1,by omega,by go_num,E,hb6⟩
       case measure=>simp [intOf]; omega
     ·obtain rfl : j=m:=by omega
      rw [HPE.out] at hh
      have E:=Lib.hid (HGD2.out hh.out)
      clear hh
      go_wp2
      go_roundw
      case rel=>exact ⟨i+1,by omega,by go_num,E,hb25⟩
      case measure=>simp [intOf]; omega
  ·obtain rfl : i=n:=by omega
   rw [HTE.out] at hd
   have E : Hid (convexL L=true):=Lib.hid (by rw [HCX.out]; exact hd.out)
   clear hd
   go_wp2
   go_ret2
   exact ⟨by rw [E.out]; rfl,bel⟩
end Go.Proofs.YtbnbaokamccmjaaGreatDoor

/- slices.Clone of a solid; mesh: each. -/
namespace Go.Proofs.YtbnbaokamccmjaaGreatDoor
open Go Go.RowKit
set_option maxHeartbeats 2000000 in
set_option maxRecDepth 100000 in
theorem cloneS_walk (v : Value) (l : List TV) (w : World) (hv : Ts w v l) (hm : l.length≤1000000) :
  Calls Tryz.prog 22 #[v] w (Ret fun u w'=>w'.ownsRow w.heap.size 43 9 u l.length (tcs l)∧Below w.heap.size w w'):=by
 have HV:=Lib.hid hv
 have HO:=Lib.hid (tcs_one_cell l)
 obtain ⟨A,cap,rfl,hn,hc,hcell⟩:=hv.open
 unfold Ts at HV
 have HN : Hid (A=none→l=[]):=Lib.hid (fun h=>by
  cases l with
  | nil=>rfl
  | cons t l =>
   obtain ⟨b,off,h2,_⟩:=hcell (by simp)
   rw [h] at h2
   cases h2)
 clear hcell hv
 have q : ∀ (w : World) (a : Option Addr) (n c n' c' : Nat),(binOp .eql 33 (.slice a n c) (.slice none n' c')).run Tryz.prog w=.ok (.bool a.isNone) w:=fun w a n c n' c'=>Lib.run_eql_slice_nil w _ _ a n c n' c' Tryz.underlying33
 cases A with
 | none =>
  have e:=HN.out rfl
  subst e
  clear HN HV HO
  go_enter Tryz.func22,Tryz.ntmps22
  go_wp2
  go_ret
  exact ⟨_,rfl,World.ownsRow_nil _ _ _ _,Below.refl _ _⟩
 | some ad =>
  clear HN
  go_enter Tryz.func22,Tryz.ntmps22
  go_wp2_with (at_builtin; refine append_rd (w0:=w) w.heap.size rfl (.tmp 5) (.tmp 6) 33 43 _ 9 144 rfl Tryz.underlying33 info_tri rfl (by omega) (by omega) _ 0 l.length [] (tcs l) rfl _ rfl (Rd.below HV.out (ba (br w))) HO.out (World.ownsRow_made w #[] 0 (Nat.le_refl _) (Nat.zero_le _) (by simp)) (ba (br w)) (by (try simp)<;>omega) (by omega) ?_; intro v2 w2 hown2 hb2 hg2)
  have HW:=Lib.hid hown2
  clear hown2 hg2
  go_wp2
  go_ret
  refine ⟨_,rfl, ?_,hb2⟩
  have:=HW.out
  rw [Nat.zero_add,List.nil_append] at this
  exact this
def mixF (F : V3→V3) (P : List V3) (m : Nat) : List V3:=(P.take m).map F++P.drop m
theorem mixF_zero (F : V3→V3) (P : List V3) : mixF F P 0=P:=by simp [mixF]
theorem mixF_end (F : V3→V3) (P : List V3) : mixF F P P.length=P.map F:=by simp [mixF]
theorem mixF_get {F : V3→V3} {P : List V3} {m : Nat} {p : V3} (h : P[m]?=some p) : (mixF F P m)[m]?=some p:=by
 have hlt : m<P.length:=(List.getElem?_eq_some_iff.1 h).1
 unfold mixF
 rw [List.getElem?_append_right (by rw [List.length_map,List.length_take]; omega),List.length_map,List.length_take,List.getElem?_drop]
 rw [show m + (m - min m P.length)=m by omega]
 exact h
theorem mixF_set {F : V3→V3} {P : List V3} {m : Nat} {p : V3} (h : P[m]?=some p) : (mixF F P m).set m (F p)=mixF F P (m+1):=by
 have hlt : m<P.length:=(List.getElem?_eq_some_iff.1 h).1
 have e : P[m]=p:=(List.getElem?_eq_some_iff.1 h).2
 have hl : ((P.take m).map F).length=m:=by rw [List.length_map,List.length_take]; omega
 unfold mixF
 rw [List.set_append_right _ _ (by omega),hl,Nat.sub_self,List.drop_eq_getElem_cons hlt,e,List.set_cons_zero,List.take_succ_eq_append_getElem hlt,e,List.map_append,List.append_assoc]
 rfl
theorem svs_set : ∀ (l : List SV) (m : Nat) (s : SV),svs (l.set m s)=(((svs l).set (m * 3) (.string s.x)).set (m * 3+1) (.string s.y)).set (m * 3+2) (.string s.z)
 | [],m,s=>by simp [svs]
 | a :: l,0,s=>rfl
 | a :: l,m+1,s=>by
  have ih:=svs_set l m s
  have e : ∀ (b : SV) (k : List SV),svs (b :: k)=.string b.x :: .string b.y :: .string b.z :: svs k:=fun _ _=>rfl
  rw [List.set_cons_succ,e,e,ih,show (m+1) * 3=m * 3+1+1+1 by omega]
  rfl
theorem tcs_pts (l : List TV) : tcs l=svs (tpts l):=by
 induction l with
 | nil=>rfl
 | cons t l ih =>
  show TV.cells t++tcs l=svs (t.pts++tpts l)
  rw [svs_append,ih]
  simp [Tr.pts,svs,TV.cells]
theorem tpts_txt (L : List (Tr V3)) : tpts (L.map txt)=tvs (tpts L):=tpts_map (f:=txv) L
theorem tpts_mapF (F : V3→V3) (L : List (Tr V3)) : tpts (L.map (Tr.map F))=(tpts L).map F:=tpts_map (f:=F) L
theorem tvs_set (l : List V3) (m : Nat) (p : V3) : tvs (l.set m p)=(tvs l).set m (txv p):=by
 unfold tvs
 rw [List.map_set]
theorem own_point {w : World} {base g n cap m : Nat} {P : List V3} {p : V3} (h : w.ownsRow base 43 9 (.slice (some ⟨g,0,none⟩) n cap) n (svs (tvs P))) (hm : m<n * 3) :
  (((w.setCell ⟨g,m * 3,none⟩ (.string (rtx p.x))).setCell ⟨g,m * 3+1,none⟩ (.string (rtx p.y))).setCell ⟨g,m * 3+2,none⟩ (.string (rtx p.z))).ownsRow base 43 9 (.slice (some ⟨g,0,none⟩) n cap) n (svs (tvs (P.set m p))):=by
 rw [tvs_set,svs_set]
 exact (World.ownsRow.stored (World.ownsRow.stored (World.ownsRow.stored h (m * 3) (.string (rtx p.x))).1 (m * 3+1) (.string (rtx p.y))).1 (m * 3+2) (.string (rtx p.z))).1
theorem own_cells {w : World} {base g n cap m : Nat} {P : List V3} {p : V3} (h : w.ownsRow base 43 9 (.slice (some ⟨g,0,none⟩) n cap) n (svs (tvs P))) (hp : P[m]?=some p) (hm : m<n * 3) :
  w.cell? ⟨g,m * 3,none⟩=some (.string (rtx p.x))∧w.cell? ⟨g,m * 3+1,none⟩=some (.string (rtx p.y))∧w.cell? ⟨g,m * 3+2,none⟩=some (.string (rtx p.z)):=by
 obtain ⟨h1,h2,h3⟩:=svs_get (tvs P) m (txv p) (by unfold tvs; rw [List.getElem?_map,hp]; rfl)
 exact ⟨(h.cellAt _ (by omega)).trans h1,(h.cellAt _ (by omega)).trans h2,(h.cellAt _ (by omega)).trans h3⟩
set_option maxHeartbeats 4000000 in
set_option maxRecDepth 100000 in
theorem eachM_walk (F : V3→V3) (v : Value) (L : List (Tr V3)) (bb : Nat) (d1 d2 d3 : ByteArray) (w : World) (hB : Bw w) (hv : Ts w v (L.map txt)) (hm : L.length≤100000) (hd : w.cell? ⟨bb,0,none⟩=some (.string d1)∧w.cell? ⟨bb,1,none⟩=some (.string d2)∧w.cell? ⟨bb,2,none⟩=some (.string d3))
  (hF : ∀ p ∈ tpts L,∀ W,Bw W→(W.cell? ⟨bb,0,none⟩=some (.string d1)∧W.cell? ⟨bb,1,none⟩=some (.string d2)∧W.cell? ⟨bb,2,none⟩=some (.string d3))→Calls Tryz.prog 66 #[VV p,.pointer (some ⟨bb,0,none⟩)] W fun e w'=>e=.returned (VV (F p))∧Below W.heap.size W w') :
  Calls Tryz.prog 65 #[v,.func (.func 66) #[] #[.pointer (some ⟨bb,0,none⟩)]] w (Ret fun u w'=>Ts w' u ((L.map (Tr.map F)).map txt)∧Below w.heap.size w w'):=by
 have hlen : (L.map txt).length=L.length:=List.length_map _
 have HC:=Lib.hid (fun w hv=>cloneS_walk v (L.map txt) w hv (by rw [hlen]; omega))
 rw [hlen,tcs_pts,tpts_txt] at HC
 have HFR : Hid (((L.map (Tr.map F)).map txt).length=L.length∧tcs ((L.map (Tr.map F)).map txt)=svs (tvs ((tpts L).map F))):=Lib.hid ⟨by rw [List.length_map,List.length_map],by rw [tcs_pts,tpts_txt,tpts_mapF]⟩
 have HPL : Hid ((tpts L).length=L.length * 3):=Lib.hid (tpts_length L)
 have HV:=Lib.hid hv
 have HF:=Lib.hid hF
 obtain ⟨A,cap,rfl,hn,hc, -⟩:=hv.open
 rw [hlen] at hn HV HC ⊢
 clear hlen hv hF
 generalize tpts L=P at *
 obtain ⟨n,hn0⟩ : ∃ n,n=L.length:=⟨_,rfl⟩
 rw [← hn0] at hn HV HC HPL HFR hm ⊢
 clear hn0
 go_enter Tryz.func65,Tryz.ntmps65
 go_wp2_with fail
 refine (HC.out _ HV.out).mono ?_
 rintro e w1 ⟨u1,rfl,ho1,g1⟩
 have HO1:=Lib.hid ho1
 by_cases h0 : n=0
 ·subst h0
  rcases ho1.2 with ⟨hu, -⟩ | ⟨g,cap1,cur,hu, -⟩
  ·subst hu
   clear ho1
   go_wp2
   refine wp_loop_rounds 1 ?_
   rw [rounds_succ]
   go_wp2
   go_ret
   refine ⟨_,rfl, ?_,g1⟩
   have hp0 : P=[]:=List.eq_nil_of_length_eq_zero (by rw [HPL.out])
   refine Ts.own (base:=w.heap.size) (e:=43) ?_
   rw [HFR.out.1,HFR.out.2,hp0]
   rw [hp0] at HO1
   exact HO1.out
  ·subst hu
   clear ho1
   go_wp2
   refine wp_loop_rounds 1 ?_
   rw [rounds_succ]
   go_wp2
   go_ret
   refine ⟨_,rfl, ?_,g1⟩
   have hp0 : P=[]:=List.eq_nil_of_length_eq_zero (by rw [HPL.out])
   refine Ts.own (base:=w.heap.size) (e:=43) ?_
   rw [HFR.out.1,HFR.out.2,hp0]
   rw [hp0] at HO1
   exact HO1.out
 ·obtain ⟨g,cap1,hu,hg1,hg2⟩:=ho1.form (by omega)
  subst hu
  clear ho1
  have HO2 : Hid (w1.ownsRow w.heap.size 43 9 (.slice (some ⟨g,0,none⟩) n cap1) n (svs (tvs (mixF F P 0)))):=Lib.hid (by rw [mixF_zero]; exact HO1.out)
  clear HO1
  go_wp2
  go_loopw [12] (fun ii wr=>∃ i : Nat,i≤n∧ii=.int .i64 i∧Hid (wr.ownsRow w.heap.size 43 9 (.slice (some ⟨g,0,none⟩) n cap1) n (svs (tvs (mixF F P (i * 3)))))∧Below w.heap.size w wr) (fun ii _=>n - (intOf ii).toNat)
  case atStart=>exact ⟨0,Nat.zero_le _,rfl,HO2,g1⟩
  case round =>
   obtain ⟨i,hi,rfl,hown,hb⟩:=hrel
   have hsz:=hb.size
   by_cases hlt : i<n
   ·have hi0 : (0 : Int)≤(i : Int):=by omega
    have hin : (i : Int)<(n : Int):=by omega
    have o0:=hown
    have b0:=hb
    obtain ⟨V0,hV0⟩ : ∃ x,x=wr:=⟨_,rfl⟩
    subst hV0
    clear hown HO2
    go_wp2
    refine wp_loop_rounds 4 ?_
    rw [rounds_succ]
    obtain ⟨p0,hp0⟩ : ∃ p,P[i * 3]?=some p:=⟨_,List.getElem?_eq_getElem (by rw [HPL.out]; omega)⟩
    obtain ⟨x0,x1,x2⟩:=own_cells o0.out (mixF_get hp0) (by omega)
    rw [show (i * 3) * 3=i * 9 by omega] at x0
    rw [show (i * 3) * 3+1=i * 9+1 by omega] at x1
    rw [show (i * 3) * 3+2=i * 9+2 by omega] at x2
    have HFp:=Lib.hid (fun W hB=>HF.out p0 (List.mem_of_getElem? hp0) W hB)
    have HST : Hid (∀ W : World,W.ownsRow w.heap.size 43 9 (.slice (some ⟨g,0,none⟩) n cap1) n (svs (tvs (mixF F P (i * 3))))→(((W.setCell ⟨g,i * 9,none⟩ (.string (rtx (F p0).x))).setCell ⟨g,i * 9+1,none⟩ (.string (rtx (F p0).y))).setCell ⟨g,i * 9+2,none⟩ (.string (rtx (F p0).z))).ownsRow w.heap.size 43 9 (.slice (some ⟨g,0,none⟩) n cap1) n (svs (tvs (mixF F P (i * 3+1))))):=Lib.hid (fun W h=>by
     have:=own_point (m:=i * 3) (p:=F p0) h (by omega)
     rw [mixF_set hp0,show (i * 3) * 3=i * 9 by omega] at this
     exact this)
    rw [VV_eq p0,VV_eq (F p0)] at HFp
    generalize rtx p0.x=q00 at *
    generalize rtx (F p0).x=r00 at *
    generalize rtx p0.y=q01 at *
    generalize rtx (F p0).y=r01 at *
    generalize rtx p0.z=q02 at *
    generalize rtx (F p0).z=r02 at *
    have hsz0:=b0.size
    have zg0 : g<V0.heap.size:=World.block_lt_of_cell? V0 _ x0
    go_wp2
    go_region_with
     ((go_at_call 66; refine (HFp.out _ (hB.below (by first | exact b0 | exact bd b0)) (by exact ⟨cell_below (by first | exact b0 | exact bd b0) hd.1,cell_below (by first | exact b0 | exact bd b0) hd.2.1,cell_below (by first | exact b0 | exact bd b0) hd.2.2⟩)).mono ?_; rintro e y0 ⟨rfl,gy⟩; have n0:=cell_below gy (by exact x0); have n1:=cell_below gy (by exact x1); have n2:=cell_below gy (by exact x2); have B0 : Below w.heap.size w y0:=bn (by first | exact b0 | exact bd b0) gy; have O0:=Lib.hid (own_below (by first | exact o0.out | exact o0.out.drew) gy); have f0:=World.ownsRow.frozenAt O0.out (i * 9); have f1:=World.ownsRow.frozenAt O0.out (i * 9+1); have f2:=World.ownsRow.frozenAt O0.out (i * 9+2); have zy0 : g<y0.heap.size:=Nat.lt_of_lt_of_le zg0 (by have:=gy.size; (try simp at this); omega); clear gy))
    obtain ⟨U1,hU⟩ : ∃ U,U=((y0.setCell ⟨g,i * 9,none⟩ (.string r00)).setCell ⟨g,i * 9+1,none⟩ (.string r01)).setCell ⟨g,i * 9+2,none⟩ (.string r02):=⟨_,rfl⟩
    have o1 : Hid (U1.ownsRow w.heap.size 43 9 (.slice (some ⟨g,0,none⟩) n cap1) n (svs (tvs (mixF F P (i * 3+1))))):=Lib.hid (by
     have:=HST.out _ O0.out
     rw [hU]
     exact this)
    have b1 : Below w.heap.size w U1:=by rw [hU]; exact ((B0.setCell hg1 _).setCell hg1 _).setCell hg1 _
    rw [← hU]
    clear hU x0 x1 x2 n0 n1 n2 f0 f1 f2 HST HFp
    go_wp2
    rw [rounds_succ]
    obtain ⟨p1,hp1⟩ : ∃ p,P[i * 3+1]?=some p:=⟨_,List.getElem?_eq_getElem (by rw [HPL.out]; omega)⟩
    obtain ⟨x0,x1,x2⟩:=own_cells o1.out (mixF_get hp1) (by omega)
    rw [show (i * 3+1) * 3=i * 9+3 by omega] at x0
    rw [show (i * 3+1) * 3+1=i * 9+4 by omega] at x1
    rw [show (i * 3+1) * 3+2=i * 9+5 by omega] at x2
    have HFp:=Lib.hid (fun W hB=>HF.out p1 (List.mem_of_getElem? hp1) W hB)
    have HST : Hid (∀ W : World,W.ownsRow w.heap.size 43 9 (.slice (some ⟨g,0,none⟩) n cap1) n (svs (tvs (mixF F P (i * 3+1))))→(((W.setCell ⟨g,i * 9+3,none⟩ (.string (rtx (F p1).x))).setCell ⟨g,i * 9+4,none⟩ (.string (rtx (F p1).y))).setCell ⟨g,i * 9+5,none⟩ (.string (rtx (F p1).z))).ownsRow w.heap.size 43 9 (.slice (some ⟨g,0,none⟩) n cap1) n (svs (tvs (mixF F P (i * 3+1+1))))):=Lib.hid (fun W h=>by
     have:=own_point (m:=i * 3+1) (p:=F p1) h (by omega)
     rw [mixF_set hp1,show (i * 3+1) * 3=i * 9+3 by omega] at this
     exact this)
    rw [VV_eq p1,VV_eq (F p1)] at HFp
    generalize rtx p1.x=q10 at *
    generalize rtx (F p1).x=r10 at *
    generalize rtx p1.y=q11 at *
    generalize rtx (F p1).y=r11 at *
    generalize rtx p1.z=q12 at *
    generalize rtx (F p1).z=r12 at *
    have hsz1:=b1.size
    have zg1 : g<U1.heap.size:=World.block_lt_of_cell? U1 _ x0
    go_wp2
    go_region_with
     ((go_at_call 66; refine (HFp.out _ (hB.below (by first | exact b1 | exact bd b1)) (by exact ⟨cell_below (by first | exact b1 | exact bd b1) hd.1,cell_below (by first | exact b1 | exact bd b1) hd.2.1,cell_below (by first | exact b1 | exact bd b1) hd.2.2⟩)).mono ?_; rintro e y1 ⟨rfl,gy⟩; have n0:=cell_below gy (by exact x0); have n1:=cell_below gy (by exact x1); have n2:=cell_below gy (by exact x2); have B1 : Below w.heap.size w y1:=bn (by first | exact b1 | exact bd b1) gy; have O1:=Lib.hid (own_below (by first | exact o1.out | exact o1.out.drew) gy); have f0:=World.ownsRow.frozenAt O1.out (i * 9+3); have f1:=World.ownsRow.frozenAt O1.out (i * 9+4); have f2:=World.ownsRow.frozenAt O1.out (i * 9+5); have zy1 : g<y1.heap.size:=Nat.lt_of_lt_of_le zg1 (by have:=gy.size; (try simp at this); omega); clear gy))
    obtain ⟨U2,hU⟩ : ∃ U,U=((y1.setCell ⟨g,i * 9+3,none⟩ (.string r10)).setCell ⟨g,i * 9+4,none⟩ (.string r11)).setCell ⟨g,i * 9+5,none⟩ (.string r12):=⟨_,rfl⟩
    have o2 : Hid (U2.ownsRow w.heap.size 43 9 (.slice (some ⟨g,0,none⟩) n cap1) n (svs (tvs (mixF F P (i * 3+2))))):=Lib.hid (by
     have:=HST.out _ O1.out
     rw [hU]
     exact this)
    have b2 : Below w.heap.size w U2:=by rw [hU]; exact ((B1.setCell hg1 _).setCell hg1 _).setCell hg1 _
    rw [← hU]
    clear hU x0 x1 x2 n0 n1 n2 f0 f1 f2 HST HFp
    go_wp2
    rw [rounds_succ]
    obtain ⟨p2,hp2⟩ : ∃ p,P[i * 3+2]?=some p:=⟨_,List.getElem?_eq_getElem (by rw [HPL.out]; omega)⟩
    obtain ⟨x0,x1,x2⟩:=own_cells o2.out (mixF_get hp2) (by omega)
    rw [show (i * 3+2) * 3=i * 9+6 by omega] at x0
    rw [show (i * 3+2) * 3+1=i * 9+7 by omega] at x1
    rw [show (i * 3+2) * 3+2=i * 9+8 by omega] at x2
    have HFp:=Lib.hid (fun W hB=>HF.out p2 (List.mem_of_getElem? hp2) W hB)
    have HST : Hid (∀ W : World,W.ownsRow w.heap.size 43 9 (.slice (some ⟨g,0,none⟩) n cap1) n (svs (tvs (mixF F P (i * 3+2))))→(((W.setCell ⟨g,i * 9+6,none⟩ (.string (rtx (F p2).x))).setCell ⟨g,i * 9+7,none⟩ (.string (rtx (F p2).y))).setCell ⟨g,i * 9+8,none⟩ (.string (rtx (F p2).z))).ownsRow w.heap.size 43 9 (.slice (some ⟨g,0,none⟩) n cap1) n (svs (tvs (mixF F P (i * 3+2+1))))):=Lib.hid (fun W h=>by
     have:=own_point (m:=i * 3+2) (p:=F p2) h (by omega)
     rw [mixF_set hp2,show (i * 3+2) * 3=i * 9+6 by omega] at this
     exact this)
    rw [VV_eq p2,VV_eq (F p2)] at HFp
    generalize rtx p2.x=q20 at *
    generalize rtx (F p2).x=r20 at *
    generalize rtx p2.y=q21 at *
    generalize rtx (F p2).y=r21 at *
    generalize rtx p2.z=q22 at *
    generalize rtx (F p2).z=r22 at *
    have hsz2:=b2.size
    have zg2 : g<U2.heap.size:=World.block_lt_of_cell? U2 _ x0
    go_wp2
    go_region_with
     ((go_at_call 66; refine (HFp.out _ (hB.below (by first | exact b2 | exact bd b2)) (by exact ⟨cell_below (by first | exact b2 | exact bd b2) hd.1,cell_below (by first | exact b2 | exact bd b2) hd.2.1,cell_below (by first | exact b2 | exact bd b2) hd.2.2⟩)).mono ?_; rintro e y2 ⟨rfl,gy⟩; have n0:=cell_below gy (by exact x0); have n1:=cell_below gy (by exact x1); have n2:=cell_below gy (by exact x2); have B2 : Below w.heap.size w y2:=bn (by first | exact b2 | exact bd b2) gy; have O2:=Lib.hid (own_below (by first | exact o2.out | exact o2.out.drew) gy); have f0:=World.ownsRow.frozenAt O2.out (i * 9+6); have f1:=World.ownsRow.frozenAt O2.out (i * 9+7); have f2:=World.ownsRow.frozenAt O2.out (i * 9+8); have zy2 : g<y2.heap.size:=Nat.lt_of_lt_of_le zg2 (by have:=gy.size; (try simp at this); omega); clear gy))
    obtain ⟨U3,hU⟩ : ∃ U,U=((y2.setCell ⟨g,i * 9+6,none⟩ (.string r20)).setCell ⟨g,i * 9+7,none⟩ (.string r21)).setCell ⟨g,i * 9+8,none⟩ (.string r22):=⟨_,rfl⟩
    have o3 : Hid (U3.ownsRow w.heap.size 43 9 (.slice (some ⟨g,0,none⟩) n cap1) n (svs (tvs (mixF F P ((i+1) * 3))))):=Lib.hid (by
     have:=HST.out _ O2.out
     rw [show i * 3+2+1=(i+1) * 3 by omega] at this
     rw [hU]
     exact this)
    have b3 : Below w.heap.size w U3:=by rw [hU]; exact ((B2.setCell hg1 _).setCell hg1 _).setCell hg1 _
    rw [← hU]
    clear hU x0 x1 x2 n0 n1 n2 f0 f1 f2 HST HFp
    go_wp2
    rw [rounds_succ]
    go_wp2
    go_roundw
    case rel=>exact ⟨i+1,by omega,by go_num,o3,b3⟩
    case measure=>simp [intOf]; omega
   ·obtain rfl : i=n:=by omega
    have HE : Hid (Ts wr (.slice (some ⟨g,0,none⟩) i cap1) ((L.map (Tr.map F)).map txt)):=Lib.hid (by
     refine Ts.own (base:=w.heap.size) (e:=43) ?_
     rw [HFR.out.1,HFR.out.2,← mixF_end F P,HPL.out]
     exact hown.out)
    clear hown HO2
    go_wp2
    go_ret
    exact ⟨_,rfl,HE.out,hb⟩
set_option maxHeartbeats 4000000 in
set_option maxRecDepth 100000 in
theorem eachN_walk (F : V3→V3) (v : Value) (L : List (Tr V3)) (w : World) (hB : Bw w) (hv : Ts w v (L.map txt)) (hm : L.length≤100000)
  (hF : ∀ p ∈ tpts L,∀ W,Bw W→Calls Tryz.prog 70 #[VV p] W fun e w'=>e=.returned (VV (F p))∧Below W.heap.size W w') :
  Calls Tryz.prog 65 #[v,.func (.func 70) #[] #[]] w (Ret fun u w'=>Ts w' u ((L.map (Tr.map F)).map txt)∧Below w.heap.size w w'):=by
 have hlen : (L.map txt).length=L.length:=List.length_map _
 have HC:=Lib.hid (fun w hv=>cloneS_walk v (L.map txt) w hv (by rw [hlen]; omega))
 rw [hlen,tcs_pts,tpts_txt] at HC
 have HFR : Hid (((L.map (Tr.map F)).map txt).length=L.length∧tcs ((L.map (Tr.map F)).map txt)=svs (tvs ((tpts L).map F))):=Lib.hid ⟨by rw [List.length_map,List.length_map],by rw [tcs_pts,tpts_txt,tpts_mapF]⟩
 have HPL : Hid ((tpts L).length=L.length * 3):=Lib.hid (tpts_length L)
 have HV:=Lib.hid hv
 have HF:=Lib.hid hF
 obtain ⟨A,cap,rfl,hn,hc, -⟩:=hv.open
 rw [hlen] at hn HV HC ⊢
 clear hlen hv hF
 generalize tpts L=P at *
 obtain ⟨n,hn0⟩ : ∃ n,n=L.length:=⟨_,rfl⟩
 rw [← hn0] at hn HV HC HPL HFR hm ⊢
 clear hn0
 go_enter Tryz.func65,Tryz.ntmps65
 go_wp2_with fail
 refine (HC.out _ HV.out).mono ?_
 rintro e w1 ⟨u1,rfl,ho1,g1⟩
 have HO1:=Lib.hid ho1
 by_cases h0 : n=0
 ·subst h0
  rcases ho1.2 with ⟨hu, -⟩ | ⟨g,cap1,cur,hu, -⟩
  ·subst hu
   clear ho1
   go_wp2
   refine wp_loop_rounds 1 ?_
   rw [rounds_succ]
   go_wp2
   go_ret
   refine ⟨_,rfl, ?_,g1⟩
   have hp0 : P=[]:=List.eq_nil_of_length_eq_zero (by rw [HPL.out])
   refine Ts.own (base:=w.heap.size) (e:=43) ?_
   rw [HFR.out.1,HFR.out.2,hp0]
   rw [hp0] at HO1
   exact HO1.out
  ·subst hu
   clear ho1
   go_wp2
   refine wp_loop_rounds 1 ?_
   rw [rounds_succ]
   go_wp2
   go_ret
   refine ⟨_,rfl, ?_,g1⟩
   have hp0 : P=[]:=List.eq_nil_of_length_eq_zero (by rw [HPL.out])
   refine Ts.own (base:=w.heap.size) (e:=43) ?_
   rw [HFR.out.1,HFR.out.2,hp0]
   rw [hp0] at HO1
   exact HO1.out
 ·obtain ⟨g,cap1,hu,hg1,hg2⟩:=ho1.form (by omega)
  subst hu
  clear ho1
  have HO2 : Hid (w1.ownsRow w.heap.size 43 9 (.slice (some ⟨g,0,none⟩) n cap1) n (svs (tvs (mixF F P 0)))):=Lib.hid (by rw [mixF_zero]; exact HO1.out)
  clear HO1
  go_wp2
  go_loopw [12] (fun ii wr=>∃ i : Nat,i≤n∧ii=.int .i64 i∧Hid (wr.ownsRow w.heap.size 43 9 (.slice (some ⟨g,0,none⟩) n cap1) n (svs (tvs (mixF F P (i * 3)))))∧Below w.heap.size w wr) (fun ii _=>n - (intOf ii).toNat)
  case atStart=>exact ⟨0,Nat.zero_le _,rfl,HO2,g1⟩
  case round =>
   obtain ⟨i,hi,rfl,hown,hb⟩:=hrel
   have hsz:=hb.size
   by_cases hlt : i<n
   ·have hi0 : (0 : Int)≤(i : Int):=by omega
    have hin : (i : Int)<(n : Int):=by omega
    have o0:=hown
    have b0:=hb
    obtain ⟨V0,hV0⟩ : ∃ x,x=wr:=⟨_,rfl⟩
    subst hV0
    clear hown HO2
    go_wp2
    refine wp_loop_rounds 4 ?_
    rw [rounds_succ]
    obtain ⟨p0,hp0⟩ : ∃ p,P[i * 3]?=some p:=⟨_,List.getElem?_eq_getElem (by rw [HPL.out]; omega)⟩
    obtain ⟨x0,x1,x2⟩:=own_cells o0.out (mixF_get hp0) (by omega)
    rw [show (i * 3) * 3=i * 9 by omega] at x0
    rw [show (i * 3) * 3+1=i * 9+1 by omega] at x1
    rw [show (i * 3) * 3+2=i * 9+2 by omega] at x2
    have HFp:=Lib.hid (fun W hB=>HF.out p0 (List.mem_of_getElem? hp0) W hB)
    have HST : Hid (∀ W : World,W.ownsRow w.heap.size 43 9 (.slice (some ⟨g,0,none⟩) n cap1) n (svs (tvs (mixF F P (i * 3))))→(((W.setCell ⟨g,i * 9,none⟩ (.string (rtx (F p0).x))).setCell ⟨g,i * 9+1,none⟩ (.string (rtx (F p0).y))).setCell ⟨g,i * 9+2,none⟩ (.string (rtx (F p0).z))).ownsRow w.heap.size 43 9 (.slice (some ⟨g,0,none⟩) n cap1) n (svs (tvs (mixF F P (i * 3+1))))):=Lib.hid (fun W h=>by
     have:=own_point (m:=i * 3) (p:=F p0) h (by omega)
     rw [mixF_set hp0,show (i * 3) * 3=i * 9 by omega] at this
     exact this)
    rw [VV_eq p0,VV_eq (F p0)] at HFp
    generalize rtx p0.x=q00 at *
    generalize rtx (F p0).x=r00 at *
    generalize rtx p0.y=q01 at *
    generalize rtx (F p0).y=r01 at *
    generalize rtx p0.z=q02 at *
    generalize rtx (F p0).z=r02 at *
    have hsz0:=b0.size
    have zg0 : g<V0.heap.size:=World.block_lt_of_cell? V0 _ x0
    go_wp2
    go_region_with
     ((go_at_call 70; refine (HFp.out _ (hB.below (by first | exact b0 | exact bd b0))).mono ?_; rintro e y0 ⟨rfl,gy⟩; have n0:=cell_below gy (by exact x0); have n1:=cell_below gy (by exact x1); have n2:=cell_below gy (by exact x2); have B0 : Below w.heap.size w y0:=bn (by first | exact b0 | exact bd b0) gy; have O0:=Lib.hid (own_below (by first | exact o0.out | exact o0.out.drew) gy); have f0:=World.ownsRow.frozenAt O0.out (i * 9); have f1:=World.ownsRow.frozenAt O0.out (i * 9+1); have f2:=World.ownsRow.frozenAt O0.out (i * 9+2); have zy0 : g<y0.heap.size:=Nat.lt_of_lt_of_le zg0 (by have:=gy.size; (try simp at this); omega); clear gy))
    obtain ⟨U1,hU⟩ : ∃ U,U=((y0.setCell ⟨g,i * 9,none⟩ (.string r00)).setCell ⟨g,i * 9+1,none⟩ (.string r01)).setCell ⟨g,i * 9+2,none⟩ (.string r02):=⟨_,rfl⟩
    have o1 : Hid (U1.ownsRow w.heap.size 43 9 (.slice (some ⟨g,0,none⟩) n cap1) n (svs (tvs (mixF F P (i * 3+1))))):=Lib.hid (by
     have:=HST.out _ O0.out
     rw [hU]
     exact this)
    have b1 : Below w.heap.size w U1:=by rw [hU]; exact ((B0.setCell hg1 _).setCell hg1 _).setCell hg1 _
    rw [← hU]
    clear hU x0 x1 x2 n0 n1 n2 f0 f1 f2 HST HFp
    go_wp2
    rw [rounds_succ]
    obtain ⟨p1,hp1⟩ : ∃ p,P[i * 3+1]?=some p:=⟨_,List.getElem?_eq_getElem (by rw [HPL.out]; omega)⟩
    obtain ⟨x0,x1,x2⟩:=own_cells o1.out (mixF_get hp1) (by omega)
    rw [show (i * 3+1) * 3=i * 9+3 by omega] at x0
    rw [show (i * 3+1) * 3+1=i * 9+4 by omega] at x1
    rw [show (i * 3+1) * 3+2=i * 9+5 by omega] at x2
    have HFp:=Lib.hid (fun W hB=>HF.out p1 (List.mem_of_getElem? hp1) W hB)
    have HST : Hid (∀ W : World,W.ownsRow w.heap.size 43 9 (.slice (some ⟨g,0,none⟩) n cap1) n (svs (tvs (mixF F P (i * 3+1))))→(((W.setCell ⟨g,i * 9+3,none⟩ (.string (rtx (F p1).x))).setCell ⟨g,i * 9+4,none⟩ (.string (rtx (F p1).y))).setCell ⟨g,i * 9+5,none⟩ (.string (rtx (F p1).z))).ownsRow w.heap.size 43 9 (.slice (some ⟨g,0,none⟩) n cap1) n (svs (tvs (mixF F P (i * 3+1+1))))):=Lib.hid (fun W h=>by
     have:=own_point (m:=i * 3+1) (p:=F p1) h (by omega)
     rw [mixF_set hp1,show (i * 3+1) * 3=i * 9+3 by omega] at this
     exact this)
    rw [VV_eq p1,VV_eq (F p1)] at HFp
    generalize rtx p1.x=q10 at *
    generalize rtx (F p1).x=r10 at *
    generalize rtx p1.y=q11 at *
    generalize rtx (F p1).y=r11 at *
    generalize rtx p1.z=q12 at *
    generalize rtx (F p1).z=r12 at *
    have hsz1:=b1.size
    have zg1 : g<U1.heap.size:=World.block_lt_of_cell? U1 _ x0
    go_wp2
    go_region_with
     ((go_at_call 70; refine (HFp.out _ (hB.below (by first | exact b1 | exact bd b1))).mono ?_; rintro e y1 ⟨rfl,gy⟩; have n0:=cell_below gy (by exact x0); have n1:=cell_below gy (by exact x1); have n2:=cell_below gy (by exact x2); have B1 : Below w.heap.size w y1:=bn (by first | exact b1 | exact bd b1) gy; have O1:=Lib.hid (own_below (by first | exact o1.out | exact o1.out.drew) gy); have f0:=World.ownsRow.frozenAt O1.out (i * 9+3); have f1:=World.ownsRow.frozenAt O1.out (i * 9+4); have f2:=World.ownsRow.frozenAt O1.out (i * 9+5); have zy1 : g<y1.heap.size:=Nat.lt_of_lt_of_le zg1 (by have:=gy.size; (try simp at this); omega); clear gy))
    obtain ⟨U2,hU⟩ : ∃ U,U=((y1.setCell ⟨g,i * 9+3,none⟩ (.string r10)).setCell ⟨g,i * 9+4,none⟩ (.string r11)).setCell ⟨g,i * 9+5,none⟩ (.string r12):=⟨_,rfl⟩
    have o2 : Hid (U2.ownsRow w.heap.size 43 9 (.slice (some ⟨g,0,none⟩) n cap1) n (svs (tvs (mixF F P (i * 3+2))))):=Lib.hid (by
     have:=HST.out _ O1.out
     rw [hU]
     exact this)
    have b2 : Below w.heap.size w U2:=by rw [hU]; exact ((B1.setCell hg1 _).setCell hg1 _).setCell hg1 _
    rw [← hU]
    clear hU x0 x1 x2 n0 n1 n2 f0 f1 f2 HST HFp
    go_wp2
    rw [rounds_succ]
    obtain ⟨p2,hp2⟩ : ∃ p,P[i * 3+2]?=some p:=⟨_,List.getElem?_eq_getElem (by rw [HPL.out]; omega)⟩
    obtain ⟨x0,x1,x2⟩:=own_cells o2.out (mixF_get hp2) (by omega)
    rw [show (i * 3+2) * 3=i * 9+6 by omega] at x0
    rw [show (i * 3+2) * 3+1=i * 9+7 by omega] at x1
    rw [show (i * 3+2) * 3+2=i * 9+8 by omega] at x2
    have HFp:=Lib.hid (fun W hB=>HF.out p2 (List.mem_of_getElem? hp2) W hB)
    have HST : Hid (∀ W : World,W.ownsRow w.heap.size 43 9 (.slice (some ⟨g,0,none⟩) n cap1) n (svs (tvs (mixF F P (i * 3+2))))→(((W.setCell ⟨g,i * 9+6,none⟩ (.string (rtx (F p2).x))).setCell ⟨g,i * 9+7,none⟩ (.string (rtx (F p2).y))).setCell ⟨g,i * 9+8,none⟩ (.string (rtx (F p2).z))).ownsRow w.heap.size 43 9 (.slice (some ⟨g,0,none⟩) n cap1) n (svs (tvs (mixF F P (i * 3+2+1))))):=Lib.hid (fun W h=>by
     have:=own_point (m:=i * 3+2) (p:=F p2) h (by omega)
     rw [mixF_set hp2,show (i * 3+2) * 3=i * 9+6 by omega] at this
     exact this)
    rw [VV_eq p2,VV_eq (F p2)] at HFp
    generalize rtx p2.x=q20 at *
    generalize rtx (F p2).x=r20 at *
    generalize rtx p2.y=q21 at *
    generalize rtx (F p2).y=r21 at *
    generalize rtx p2.z=q22 at *
    generalize rtx (F p2).z=r22 at *
    have hsz2:=b2.size
    have zg2 : g<U2.heap.size:=World.block_lt_of_cell? U2 _ x0
    go_wp2
    go_region_with
     ((go_at_call 70; refine (HFp.out _ (hB.below (by first | exact b2 | exact bd b2))).mono ?_; rintro e y2 ⟨rfl,gy⟩; have n0:=cell_below gy (by exact x0); have n1:=cell_below gy (by exact x1); have n2:=cell_below gy (by exact x2); have B2 : Below w.heap.size w y2:=bn (by first | exact b2 | exact bd b2) gy; have O2:=Lib.hid (own_below (by first | exact o2.out | exact o2.out.drew) gy); have f0:=World.ownsRow.frozenAt O2.out (i * 9+6); have f1:=World.ownsRow.frozenAt O2.out (i * 9+7); have f2:=World.ownsRow.frozenAt O2.out (i * 9+8); have zy2 : g<y2.heap.size:=Nat.lt_of_lt_of_le zg2 (by have:=gy.size; (try simp at this); omega); clear gy))
    obtain ⟨U3,hU⟩ : ∃ U,U=((y2.setCell ⟨g,i * 9+6,none⟩ (.string r20)).setCell ⟨g,i * 9+7,none⟩ (.string r21)).setCell ⟨g,i * 9+8,none⟩ (.string r22):=⟨_,rfl⟩
    have o3 : Hid (U3.ownsRow w.heap.size 43 9 (.slice (some ⟨g,0,none⟩) n cap1) n (svs (tvs (mixF F P ((i+1) * 3))))):=Lib.hid (by
     have:=HST.out _ O2.out
     rw [show i * 3+2+1=(i+1) * 3 by omega] at this
     rw [hU]
     exact this)
    have b3 : Below w.heap.size w U3:=by rw [hU]; exact ((B2.setCell hg1 _).setCell hg1 _).setCell hg1 _
    rw [← hU]
    clear hU x0 x1 x2 n0 n1 n2 f0 f1 f2 HST HFp
    go_wp2
    rw [rounds_succ]
    go_wp2
    go_roundw
    case rel=>exact ⟨i+1,by omega,by go_num,o3,b3⟩
    case measure=>simp [intOf]; omega
   ·obtain rfl : i=n:=by omega
    have HE : Hid (Ts wr (.slice (some ⟨g,0,none⟩) i cap1) ((L.map (Tr.map F)).map txt)):=Lib.hid (by
     refine Ts.own (base:=w.heap.size) (e:=43) ?_
     rw [HFR.out.1,HFR.out.2,← mixF_end F P,HPL.out]
     exact hown.out)
    clear hown HO2
    go_wp2
    go_ret
    exact ⟨_,rfl,HE.out,hb⟩
end Go.Proofs.YtbnbaokamccmjaaGreatDoor

/- mesh: Move, Mirror. -/
namespace Go.Proofs.YtbnbaokamccmjaaGreatDoor
open Go Go.RowKit
set_option maxHeartbeats 2000000 in
theorem move1_walk (p d : V3) (hp : p.le 10000000) (hd : d.le 10000000) (bb : Nat) (w : World) (hB : Bw w) (hc : w.cell? ⟨bb,0,none⟩=some (.string (rtx d.x))∧w.cell? ⟨bb,1,none⟩=some (.string (rtx d.y))∧w.cell? ⟨bb,2,none⟩=some (.string (rtx d.z))) :
  Calls Tryz.prog 66 #[VV p,.pointer (some ⟨bb,0,none⟩)] w fun e w'=>e=.returned (VV (p.add d))∧Below w.heap.size w w':=by
 have H:=Lib.hid (fun w hB=>mplus_walk p d hp hd w hB)
 obtain ⟨k0,k1,k2⟩:=hc
 have hlt:=World.block_lt_of_cell? w _ k0
 clear hp hd
 rw [VV_eq,VV_eq,VV_eq] at *
 generalize rtx p.x=x1 at *
 generalize rtx p.y=x2 at *
 generalize rtx p.z=x3 at *
 generalize rtx d.x=y1 at *
 generalize rtx d.y=y2 at *
 generalize rtx d.z=y3 at *
 generalize rtx (p.add d).x=r1 at *
 generalize rtx (p.add d).y=r2 at *
 generalize rtx (p.add d).z=r3 at *
 go_enter Tryz.func66,Tryz.ntmps66
 go_wp2_with fail
 refine (H.out _ (hB.below bel)).mono ?_
 rintro e w1 ⟨rfl,g1⟩
 have hz1 : w.heap.size+1<w1.heap.size:=hzs g1
 have hz1_0 : w.heap.size<w1.heap.size:=by omega
 have B1:=bn (w:=w) bel g1
 have c1_1_0:=bcv g1 (w.heap.size+1) 0 (.string ⟨#[]⟩)
 have f1_1_0:=bfv g1 (w.heap.size+1) 0
 have c1_1_1:=bcv g1 (w.heap.size+1) 1 (.string ⟨#[]⟩)
 have f1_1_1:=bfv g1 (w.heap.size+1) 1
 have c1_1_2:=bcv g1 (w.heap.size+1) 2 (.string ⟨#[]⟩)
 have f1_1_2:=bfv g1 (w.heap.size+1) 2
 clear g1
 go_wp2
 refine bodyPost_ret (v:=.agg #[.string r1,.string r2,.string r3]) (by simp [results,Tryz.results66,go_sem, *]) rfl ⟨(by first | rfl | rw [hI]),bel⟩
def V3.flip (p : V3) : V3:=⟨p.x, -p.y,p.z⟩
set_option maxHeartbeats 2000000 in
theorem mirror1_walk (p : V3) (hp : p.le 1000000) (w : World) (hB : Bw w) :
  Calls Tryz.prog 70 #[VV p] w fun e w'=>e=.returned (VV p.flip)∧Below w.heap.size w w':=by
 have H:=Lib.hid (fun w hB=>rSub_walk 0 p.y (by rw [rz_zero]; omega) (Nat.le_trans hp.2.1 (by omega)) w hB)
 have e1 : (0 : Rat) - p.y = -p.y:=by grind
 rw [e1,rtx_zero] at H
 clear hp e1
 rw [VV_eq,VV_eq]
 rw [show (V3.flip p).x=p.x from rfl,show (V3.flip p).y = -p.y from rfl,show (V3.flip p).z=p.z from rfl]
 generalize rtx p.x=x1 at *
 generalize rtx (-p.y)=r2 at *
 generalize rtx p.y=x2 at *
 generalize rtx p.z=x3 at *
 go_enter Tryz.func70,Tryz.ntmps70
 go_wp2_with fail
 refine (H.out _ (hB.below bel)).mono ?_
 rintro e w1 ⟨rfl,g1⟩
 have hz1 : w.heap.size+1<w1.heap.size:=hzs g1
 have hz1_0 : w.heap.size<w1.heap.size:=by omega
 have B1:=bn (w:=w) bel g1
 have c1_0_0:=bcv g1 w.heap.size 0 (.string x1)
 have f1_0_0:=bfv g1 w.heap.size 0
 have c1_0_1:=bcv g1 w.heap.size 1 (.string x2)
 have f1_0_1:=bfv g1 w.heap.size 1
 have c1_0_2:=bcv g1 w.heap.size 2 (.string x3)
 have f1_0_2:=bfv g1 w.heap.size 2
 have c1_1_0:=bcv g1 (w.heap.size+1) 0 (.string ⟨#[]⟩)
 have f1_1_0:=bfv g1 (w.heap.size+1) 0
 have c1_1_1:=bcv g1 (w.heap.size+1) 1 (.string ⟨#[]⟩)
 have f1_1_1:=bfv g1 (w.heap.size+1) 1
 have c1_1_2:=bcv g1 (w.heap.size+1) 2 (.string ⟨#[]⟩)
 have f1_1_2:=bfv g1 (w.heap.size+1) 2
 clear g1
 go_wp2
 refine bodyPost_ret (v:=.agg #[.string x1,.string r2,.string x3]) (by simp [results,Tryz.results70,go_sem, *]) rfl ⟨(by first | rfl | rw [hI]),bel⟩
theorem mem_tpts {L : List (Tr V3)} {k : Nat} (h : ∀ t ∈ L,t.a.le k∧t.b.le k∧t.c.le k) : ∀ p ∈ tpts L,p.le k:=by
 intro p hp
 unfold tpts at hp
 obtain ⟨t,ht,hp⟩:=List.mem_flatMap.1 hp
 simp only [Tr.pts,List.mem_cons,List.not_mem_nil,or_false] at hp
 obtain ⟨h1,h2,h3⟩:=h t ht
 rcases hp with rfl | rfl | rfl
 ·exact h1
 ·exact h2
 ·exact h3
set_option maxHeartbeats 400000 in
set_option maxRecDepth 100000 in
theorem mMove_ok (v : Value) (L : List (Tr V3)) (d : V3) (w : World) (hB : Bw w) (hv : Ts w v (L.map txt)) (hs : ∀ t ∈ L,t.a.le 1000000∧t.b.le 1000000∧t.c.le 1000000) (hd : d.le 1000000) (hz : chkC (L.map txt)=0) :
  Calls Tryz.prog 21 #[v,VV d] w (Ret fun r w'=>(∃ u,r=.tuple #[u,.int .i64 0]∧Ts w' u ((L.map (Tr.map (V3.add · d))).map txt))∧Below w.heap.size w w'):=by
 have hle:=tle_txt hs (show 2 * 1000000+2≤40000000 by omega)
 have hp:=chkC_zero hz
 have hlen : (L.map txt).length=L.length:=List.length_map _
 have hdl:=txv_le hd
 have H1:=Lib.hid (fun w hB hv=>check_walk v (L.map txt) w hB hv hle)
 have H2:=Lib.hid (fun w hB=>vValid_walk (txv d) ⟨Nat.le_trans hdl.1 (by omega),Nat.le_trans hdl.2.1 (by omega),Nat.le_trans hdl.2.2 (by omega)⟩ w hB)
 have H3:=Lib.hid (fun bb w hB hv hc=>eachM_walk (V3.add · d) v L bb (rtx d.x) (rtx d.y) (rtx d.z) w hB hv (by omega) hc (fun p hp W hB hc=>move1_walk p d ((mem_tpts hs p hp).mono (by omega)) (hd.mono (by omega)) bb W hB hc))
 rw [hz] at H1
 rw [isVec_txv,txv_val,VV_eq] at H2
 have HV:=Lib.hid hv
 obtain ⟨A,cap,rfl,hn,hc, -⟩:=hv.open
 have hlen2 : ((L.map (Tr.map (V3.add · d))).map txt).length=L.length:=by rw [List.length_map,List.length_map]
 rw [hlen] at hn H1 H3 HV ⊢
 generalize ((L.map (Tr.map (V3.add · d))).map txt)=L2 at *
 generalize L.length=n at *
 clear hle hp hlen hdl hs hd hz hv
 rw [VV_eq]
 generalize rtx d.x=d1 at *
 generalize rtx d.y=d2 at *
 generalize rtx d.z=d3 at *
 go_enter Tryz.func21,Tryz.ntmps21
 go_wp2_with fail
 refine (H1.out _ (hB.below bel) (HV.out.below bel)).mono ?_
 rintro e w1 ⟨rfl,g1⟩
 have hz1 : w.heap.size<w1.heap.size:=hzs g1
 have B1:=bn (w:=w) bel g1
 have c1_0_0:=bcv g1 w.heap.size 0 (.string d1)
 have f1_0_0:=bfv g1 w.heap.size 0
 have c1_0_1:=bcv g1 w.heap.size 1 (.string d2)
 have f1_0_1:=bfv g1 w.heap.size 1
 have c1_0_2:=bcv g1 w.heap.size 2 (.string d3)
 have f1_0_2:=bfv g1 w.heap.size 2
 clear g1
 go_wp2_with fail
 refine (H2.out _ (hB.below bel)).mono ?_
 rintro e w2 ⟨rfl,g2⟩
 have hz2 : w.heap.size<w2.heap.size:=hzs g2
 have B2:=bn (w:=w) bel g2
 have c2_0_0:=bcv g2 w.heap.size 0 (.string d1)
 have f2_0_0:=bfv g2 w.heap.size 0
 have c2_0_1:=bcv g2 w.heap.size 1 (.string d2)
 have f2_0_1:=bfv g2 w.heap.size 1
 have c2_0_2:=bcv g2 w.heap.size 2 (.string d3)
 have f2_0_2:=bfv g2 w.heap.size 2
 clear g2
 go_wp2_with fail
 refine (H3.out w.heap.size _ (hB.below bel) (HV.out.below bel) ⟨c2_0_0,c2_0_1,c2_0_2⟩).mono ?_
 rintro e w3 ⟨u,rfl,hu,g3⟩
 have B3:=bn (w:=w) bel g3
 clear g3
 obtain ⟨A2,cap2,rfl, -, -, -⟩:=hu.open
 rw [hlen2] at hu ⊢
 have HU:=Lib.hid hu
 clear hu hlen2
 go_wp2
 go_ret2
 exact ⟨_,rfl,⟨_,rfl,HU.out⟩,bel⟩
set_option maxHeartbeats 400000 in
set_option maxRecDepth 100000 in
theorem mMirror_ok (v : Value) (L : List (Tr V3)) (w : World) (hB : Bw w) (hv : Ts w v (L.map txt)) (hs : ∀ t ∈ L,t.a.le 1000000∧t.b.le 1000000∧t.c.le 1000000) (hz : chkC (L.map txt)=0) :
  Calls Tryz.prog 26 #[v] w (Ret fun r w'=>(∃ u,r=.tuple #[u,.int .i64 0]∧Ts w' u ((L.map (fun t=>(t.map V3.flip).turn)).map txt))∧Below w.heap.size w w'):=by
 have hle:=tle_txt hs (show 2 * 1000000+2≤40000000 by omega)
 have hp:=chkC_zero hz
 have hlen : (L.map txt).length=L.length:=List.length_map _
 have H1:=Lib.hid (fun w hB hv=>check_walk v (L.map txt) w hB hv hle)
 have H3:=Lib.hid (fun w hB hv=>eachN_walk V3.flip v L w hB hv (by omega) (fun p hp W hB=>mirror1_walk p ((mem_tpts hs p hp).mono (by omega)) W hB))
 have H4:=Lib.hid (fun u w hB hv=>turned_walk u ((L.map (Tr.map V3.flip)).map txt) w hB hv (by rw [List.length_map,List.length_map]; omega))
 rw [hz] at H1
 have hsame : ((L.map (Tr.map V3.flip)).map txt).map Tr.turn=(L.map (fun t=>(t.map V3.flip).turn)).map txt:=by
  simp [Function.comp_def,txt,Tr.map,Tr.turn]
 rw [hsame] at H4
 have HV:=Lib.hid hv
 obtain ⟨A,cap,rfl,hn,hc, -⟩:=hv.open
 have hlen2 : ((L.map (fun t=>(t.map V3.flip).turn)).map txt).length=L.length:=by rw [List.length_map,List.length_map]
 have hlen3 : ((L.map (Tr.map V3.flip)).map txt).length=L.length:=by rw [List.length_map,List.length_map]
 clear hle hp hs hz hv hsame
 rw [hlen] at hn H1 H3 HV ⊢
 generalize ((L.map (fun t=>(t.map V3.flip).turn)).map txt)=L2 at *
 generalize ((L.map (Tr.map V3.flip)).map txt)=L3 at *
 generalize L.length=n at *
 clear hlen
 go_enter Tryz.func26,Tryz.ntmps26
 go_wp2_with fail
 refine (H1.out _ (hB.below bel) (HV.out.below bel)).mono ?_
 rintro e w1 ⟨rfl,g1⟩
 have B1:=bn (w:=w) bel g1
 clear g1
 go_wp2_with fail
 refine (H3.out _ (hB.below bel) (HV.out.below bel)).mono ?_
 rintro e w2 ⟨u,rfl,hu,g2⟩
 have B2:=bn (w:=w) bel g2
 clear g2
 obtain ⟨A2,cap2,rfl, -, -, -⟩:=hu.open
 rw [hlen3] at hu ⊢
 have HU:=Lib.hid hu
 clear hu hlen3
 go_wp2_with fail
 refine (H4.out _ _ (hB.below bel) (HU.out.below (br _))).mono ?_
 rintro e w3 ⟨u,rfl,hu,g3⟩
 have B3:=bn (w:=w) bel g3
 clear g3
 obtain ⟨A3,cap3,rfl, -, -, -⟩:=hu.open
 rw [hlen2] at hu ⊢
 have HU3:=Lib.hid hu
 clear hu hlen2
 go_wp2
 go_ret2
 exact ⟨_,rfl,⟨_,rfl,HU3.out⟩,bel⟩
end Go.Proofs.YtbnbaokamccmjaaGreatDoor

/- mesh: the leader of a point (a closure that calls itself). -/
namespace Go.Proofs.YtbnbaokamccmjaaGreatDoor
open Go Go.RowKit
open Go.ChangeMaps (setBlock)
theorem under_lm : Tryz.prog.underlying 108=some (.map 25 25):=Tryz.underlying108
def zsv : SV:=⟨⟨#[]⟩,⟨#[]⟩,⟨#[]⟩⟩
theorem zero_vec (w : World) : (zeroValue 25).run Tryz.prog w=.ok (SV.val zsv) w:=by unfold zsv SV.val; kernel_rfl
theorem lm_look {W : World} {mb : Nat} {L : List (SV × SV)} (h : W.heap[mb]?=some (Mo SV.val SV.val L)) (s : SV) (c : Bool) :
  (Instr.lookup 108 (.map (some mb)) (.agg #[.string s.x,.string s.y,.string s.z]) c).run Tryz.prog W=.ok (if c then .tuple #[SV.val ((kget L s).getD zsv),.bool (kget L s).isSome] else SV.val ((kget L s).getD zsv)) W :=
 mo_lookup (g:=SV.val) kl_vec under_lm h s zsv (zero_vec W) c
theorem lm_update {W : World} {mb : Nat} {L : List (SV × SV)} (h : W.heap[mb]?=some (Mo SV.val SV.val L)) (s r : SV) :
  (Instr.mapUpdate 108 (.map (some mb)) (.agg #[.string s.x,.string s.y,.string s.z]) (.agg #[.string r.x,.string r.y,.string r.z])).run Tryz.prog W=.ok () (setBlock W mb (Mo SV.val SV.val (kset L s r))) :=
 mo_update (g:=SV.val) kl_vec under_lm h s r
def GK (W : World) (mb : Nat) (W1 : World) : Prop:=W.grownBy W1 (some mb)
theorem gk_refl (W : World) (mb : Nat) : GK W mb W:=⟨rfl,rfl,rfl,Nat.le_refl _,fun _ _ _=>rfl⟩
theorem gk_drew {W W1 : World} {mb : Nat} (h : GK W mb W1) : GK W mb W1.drew:=⟨h.os,h.tape,h.output,h.size,h.block⟩
theorem gk_set {W W1 : World} {mb : Nat} {o : Obj} (h : GK W mb W1) : GK W mb (setBlock W1 mb o) :=
 ⟨h.os,h.tape,h.output,by rw [setBlock_size]; exact h.size,fun i hi hne=>(setBlock_far (fun e=>hne (by rw [e]))).trans (h.block i hi hne)⟩
theorem gk_trans {W W1 W2 : World} {mb : Nat} (h : GK W mb W1) (g : GK W1 mb W2) : GK W mb W2 :=
 ⟨g.os.trans h.os,g.tape.trans h.tape,g.output.trans h.output,Nat.le_trans h.size g.size,fun i hi hne=>(g.block i (Nat.lt_of_lt_of_le hi h.size) hne).trans (h.block i hi hne)⟩
theorem gk_below {W W1 W2 : World} {mb : Nat} (h : GK W mb W1) (g : Below W.heap.size W1 W2) : GK W mb W2 :=
 ⟨g.os.trans h.os,g.tape.trans h.tape,g.output.trans h.output,Nat.le_trans h.size g.size,fun i hi hne=>(g.block i hi).trans (h.block i hi hne)⟩
theorem gk_alloc {W W1 : World} {mb : Nat} {o : Obj} (h : GK W mb W1) : GK W mb (W1.alloc o):=gk_below h ((Below.refl _ _).alloc h.size o)
theorem GK.cell {W W1 : World} {mb : Nat} (h : GK W mb W1) {p : Addr} {v : Value} (hc : W.cell? p=some v) (hp : p.block≠mb) : W1.cell? p=some v :=
 (World.cell?_of_block (h.block p.block (World.block_lt_of_cell? W p hc) (fun e=>hp (Option.some.inj e)))).trans hc
theorem GK.frozen {W W1 : World} {mb : Nat} (h : GK W mb W1) {p : Addr} (hlt : p.block<W.heap.size) (hp : p.block≠mb) (hf : W.frozen? p=false) : W1.frozen? p=false :=
 (World.frozen?_of_block (h.block p.block hlt (fun e=>hp (Option.some.inj e)))).trans hf
theorem GK.to_below {W W1 : World} {mb B : Nat} (h : GK W mb W1) (h1 : B≤mb) (h2 : B≤W.heap.size) : Below B W W1 :=
 ⟨h.os,h.tape,h.output,h.size,fun i hi=>h.block i (Nat.lt_of_lt_of_le hi h2) (fun e=>by cases e; omega)⟩
def fv (lb fb : Nat) : Value:=.func (.func 76) #[] #[.pointer (some ⟨lb,0,none⟩),.pointer (some ⟨fb,0,none⟩)]
structure FS (W : World) (lb fb mb : Nat) (L : List (SV × SV)) : Prop where
 map : W.cell? ⟨lb,0,none⟩=some (.map (some mb))
 self : W.cell? ⟨fb,0,none⟩=some (fv lb fb)
 here : W.heap[mb]?=some (Mo SV.val SV.val L)
 lm : lb≠mb
 fm : fb≠mb
theorem FS.gk {W W1 : World} {lb fb mb : Nat} {L L1 : List (SV × SV)} (h : FS W lb fb mb L) (g : GK W mb W1) (h1 : W1.heap[mb]?=some (Mo SV.val SV.val L1)) : FS W1 lb fb mb L1 :=
 ⟨g.cell h.map h.lm,g.cell h.self h.fm,h1,h.lm,h.fm⟩
def FindOk (ρ : SV→Nat) (R : List (SV × SV)) (lb fb mb : Nat) (p : SV) : Prop:=∀ (W : World) (L : List (SV × SV)),UF ρ L R→FS W lb fb mb L →
 Calls Tryz.prog 76 #[p.val,.pointer (some ⟨lb,0,none⟩),.pointer (some ⟨fb,0,none⟩)] W fun e w'=>e=.returned (rootOf (touch R p) p).val∧∃ L',UF ρ L' (touch R p)∧w'.heap[mb]?=some (Mo SV.val SV.val L')∧GK W mb w'
theorem cell_far2 {W W1 : World} {b : Nat} (h : W1.heap[b]?=W.heap[b]?) {c : Nat} {v : Value} (hc : W.cell? ⟨b,c,none⟩=some v) : W1.cell? ⟨b,c,none⟩=some v:=(World.cell?_of_block (a:=⟨b,c,none⟩) h).trans hc
theorem frozen_far {W W1 : World} {b : Nat} (h : W1.heap[b]?=W.heap[b]?) {c : Nat} {r : Bool} (hf : W.frozen? ⟨b,c,none⟩=r) : W1.frozen? ⟨b,c,none⟩=r:=(World.frozen?_of_block (a:=⟨b,c,none⟩) h).trans hf
set_option maxHeartbeats 4000000 in
set_option maxRecDepth 100000 in
theorem find_end (lb fb mb : Nat) (p q : SV) (b : Bool) (W : World) (L : List (SV × SV)) (hk : (Instr.lookup 108 (.map (some mb)) (.agg #[.string p.x,.string p.y,.string p.z]) true).run Tryz.prog ((W.alloc (.cells #[.string p.x,.string p.y,.string p.z] 25)).alloc (.cells #[.string ⟨#[]⟩,.string ⟨#[]⟩,.string ⟨#[]⟩] 25))=.ok (.tuple #[.agg #[.string q.x,.string q.y,.string q.z],.bool b]) ((W.alloc (.cells #[.string p.x,.string p.y,.string p.z] 25)).alloc (.cells #[.string ⟨#[]⟩,.string ⟨#[]⟩,.string ⟨#[]⟩] 25)))
  (hq : b=true→q=p) (hF : FS W lb fb mb L) :
  Calls Tryz.prog 76 #[.agg #[.string p.x,.string p.y,.string p.z],.pointer (some ⟨lb,0,none⟩),.pointer (some ⟨fb,0,none⟩)] W fun e w'=>e=.returned (.agg #[.string p.x,.string p.y,.string p.z])∧w'.heap[mb]?=some (Mo SV.val SV.val (kset L p p))∧GK W mb w':=by
 have c0:=hF.map
 have lt0:=World.block_lt_of_cell? W _ c0
 have ltm:=mp_lt hF.here
 have k2 : ((W.alloc (.cells #[.string p.x,.string p.y,.string p.z] 25)).alloc (.cells #[.string ⟨#[]⟩,.string ⟨#[]⟩,.string ⟨#[]⟩] 25)).cell? ⟨lb,0,none⟩=some (.map (some mb)):=cal (cal c0)
 have k3 : (((W.alloc (.cells #[.string p.x,.string p.y,.string p.z] 25)).alloc (.cells #[.string ⟨#[]⟩,.string ⟨#[]⟩,.string ⟨#[]⟩] 25)).alloc (.cells #[.string q.x,.string q.y,.string q.z] 25)).cell? ⟨lb,0,none⟩=some (.map (some mb)):=cal (cal (cal c0))
 have nq : b=true→∀ w,(binOp .neq 25 (.agg #[.string q.x,.string q.y,.string q.z]) (.agg #[.string p.x,.string p.y,.string p.z])).run Tryz.prog w=.ok (.bool false) w:=fun hb w=>by
  have:=neq_vec q.x q.y q.z p.x p.y p.z w
  rw [sv_eq,decide_eq_true (hq hb)] at this
  exact this
 have m3 : (((W.alloc (.cells #[.string p.x,.string p.y,.string p.z] 25)).alloc (.cells #[.string ⟨#[]⟩,.string ⟨#[]⟩,.string ⟨#[]⟩] 25)).alloc (.cells #[.string q.x,.string q.y,.string q.z] 25)).heap[mb]?=some (Mo SV.val SV.val L):=mp_alloc (mp_alloc (mp_alloc hF.here))
 have hup:=lm_update m3 p p
 have x0 : (((W.alloc (.cells #[.string p.x,.string p.y,.string p.z] 25)).alloc (.cells #[.string ⟨#[]⟩,.string ⟨#[]⟩,.string ⟨#[]⟩] 25)).alloc (.cells #[.string q.x,.string q.y,.string q.z] 25)).cell? ⟨W.heap.size,0,none⟩=some (.string p.x):=by go_simp
 have x1 : (((W.alloc (.cells #[.string p.x,.string p.y,.string p.z] 25)).alloc (.cells #[.string ⟨#[]⟩,.string ⟨#[]⟩,.string ⟨#[]⟩] 25)).alloc (.cells #[.string q.x,.string q.y,.string q.z] 25)).cell? ⟨W.heap.size,1,none⟩=some (.string p.y):=by go_simp
 have x2 : (((W.alloc (.cells #[.string p.x,.string p.y,.string p.z] 25)).alloc (.cells #[.string ⟨#[]⟩,.string ⟨#[]⟩,.string ⟨#[]⟩] 25)).alloc (.cells #[.string q.x,.string q.y,.string q.z] 25)).cell? ⟨W.heap.size,2,none⟩=some (.string p.z):=by go_simp
 have f0 : (((W.alloc (.cells #[.string p.x,.string p.y,.string p.z] 25)).alloc (.cells #[.string ⟨#[]⟩,.string ⟨#[]⟩,.string ⟨#[]⟩] 25)).alloc (.cells #[.string q.x,.string q.y,.string q.z] 25)).frozen? ⟨W.heap.size+1,0,none⟩=false:=by go_simp
 have f1 : (((W.alloc (.cells #[.string p.x,.string p.y,.string p.z] 25)).alloc (.cells #[.string ⟨#[]⟩,.string ⟨#[]⟩,.string ⟨#[]⟩] 25)).alloc (.cells #[.string q.x,.string q.y,.string q.z] 25)).frozen? ⟨W.heap.size+1,1,none⟩=false:=by go_simp
 have f2 : (((W.alloc (.cells #[.string p.x,.string p.y,.string p.z] 25)).alloc (.cells #[.string ⟨#[]⟩,.string ⟨#[]⟩,.string ⟨#[]⟩] 25)).alloc (.cells #[.string q.x,.string q.y,.string q.z] 25)).frozen? ⟨W.heap.size+1,2,none⟩=false:=by go_simp
 have g3 : GK W mb (((W.alloc (.cells #[.string p.x,.string p.y,.string p.z] 25)).alloc (.cells #[.string ⟨#[]⟩,.string ⟨#[]⟩,.string ⟨#[]⟩] 25)).alloc (.cells #[.string q.x,.string q.y,.string q.z] 25)):=gk_alloc (gk_alloc (gk_alloc (gk_refl _ _)))
 obtain ⟨X,hX⟩ : ∃ X,X=setBlock (((W.alloc (.cells #[.string p.x,.string p.y,.string p.z] 25)).alloc (.cells #[.string ⟨#[]⟩,.string ⟨#[]⟩,.string ⟨#[]⟩] 25)).alloc (.cells #[.string q.x,.string q.y,.string q.z] 25)) mb (Mo SV.val SV.val (kset L p p)):=⟨_,rfl⟩
 have hh : X.heap[mb]?=some (Mo SV.val SV.val (kset L p p)):=by rw [hX]; exact setBlock_heap m3
 have hfar : ∀ i,i≠mb→X.heap[i]?=(((W.alloc (.cells #[.string p.x,.string p.y,.string p.z] 25)).alloc (.cells #[.string ⟨#[]⟩,.string ⟨#[]⟩,.string ⟨#[]⟩] 25)).alloc (.cells #[.string q.x,.string q.y,.string q.z] 25)).heap[i]?:=fun i hi=>by rw [hX]; exact setBlock_far hi
 have gX : GK W mb X:=by rw [hX]; exact gk_set g3
 have y0 : X.cell? ⟨W.heap.size,0,none⟩=some (.string p.x):=cell_far2 (hfar _ (by omega)) x0
 have y1 : X.cell? ⟨W.heap.size,1,none⟩=some (.string p.y):=cell_far2 (hfar _ (by omega)) x1
 have y2 : X.cell? ⟨W.heap.size,2,none⟩=some (.string p.z):=cell_far2 (hfar _ (by omega)) x2
 have h0 : X.frozen? ⟨W.heap.size+1,0,none⟩=false:=frozen_far (hfar _ (by omega)) f0
 have h1 : X.frozen? ⟨W.heap.size+1,1,none⟩=false:=frozen_far (hfar _ (by omega)) f1
 have h2 : X.frozen? ⟨W.heap.size+1,2,none⟩=false:=frozen_far (hfar _ (by omega)) f2
 have o0 : X.cell? ⟨W.heap.size+1,0,none⟩=some (.string ⟨#[]⟩):=cell_far2 (hfar _ (by omega)) (by go_simp)
 have o1 : X.cell? ⟨W.heap.size+1,1,none⟩=some (.string ⟨#[]⟩):=cell_far2 (hfar _ (by omega)) (by go_simp)
 have o2 : X.cell? ⟨W.heap.size+1,2,none⟩=some (.string ⟨#[]⟩):=cell_far2 (hfar _ (by omega)) (by go_simp)
 have zX : W.heap.size+1<X.heap.size:=World.block_lt_of_cell? X _ o0
 have HH:=Lib.hid hh
 have GX:=Lib.hid gX
 have nm : mb≠W.heap.size+1:=by omega
 rw [← hX] at hup
 clear hF m3 x0 x1 x2 f0 f1 f2 g3 hX hh hfar gX
 generalize Mo SV.val SV.val (kset L p p)=M2 at *
 generalize p.x=p1 at *
 generalize p.y=p2 at *
 generalize p.z=p3 at *
 generalize q.x=q1 at *
 generalize q.y=q2 at *
 generalize q.z=q3 at *
 clear hq
 cases b
 ·clear nq
  go_enter Tryz.func76,Tryz.ntmps76
  go_wp2
  refine bodyPost_ret (v:=.agg #[.string p1,.string p2,.string p3]) (by simp [results,Tryz.results76,go_sem, *]) rfl ?_
  exact ⟨rfl,mp_set (mp_set (mp_set HH.out nm) nm) nm,gk_below GX.out ((((Below.refl W.heap.size X).setCell (by (try simp)) _).setCell (by (try simp)) _).setCell (by (try simp)) _)⟩
 ·have nq2:=nq rfl
  clear nq
  go_enter Tryz.func76,Tryz.ntmps76
  go_wp2
  refine bodyPost_ret (v:=.agg #[.string p1,.string p2,.string p3]) (by simp [results,Tryz.results76,go_sem, *]) rfl ?_
  exact ⟨rfl,mp_set (mp_set (mp_set HH.out nm) nm) nm,gk_below GX.out ((((Below.refl W.heap.size X).setCell (by (try simp)) _).setCell (by (try simp)) _).setCell (by (try simp)) _)⟩
end Go.Proofs.YtbnbaokamccmjaaGreatDoor

/- mesh: the leader of a point, found by its leader's. -/
namespace Go.Proofs.YtbnbaokamccmjaaGreatDoor
open Go Go.RowKit
open Go.ChangeMaps (setBlock)
theorem fs_heap {W W1 : World} {lb fb mb : Nat} {L : List (SV × SV)} (h : FS W lb fb mb L) (e : W1.heap=W.heap) : FS W1 lb fb mb L:=by
 have hc : ∀ a,W1.cell? a=W.cell? a:=fun a=>World.cell?_of_block (by rw [e])
 exact ⟨(hc _).trans h.map,(hc _).trans h.self,by rw [e]; exact h.here,h.lm,h.fm⟩
set_option maxHeartbeats 4000000 in
set_option maxRecDepth 100000 in
theorem find_next (lb fb mb : Nat) (p q r : SV) (W : World) (L : List (SV × SV)) (P : List (SV × SV)→Prop) (hk : (Instr.lookup 108 (.map (some mb)) (.agg #[.string p.x,.string p.y,.string p.z]) true).run Tryz.prog ((W.alloc (.cells #[.string p.x,.string p.y,.string p.z] 25)).alloc (.cells #[.string ⟨#[]⟩,.string ⟨#[]⟩,.string ⟨#[]⟩] 25))=.ok (.tuple #[.agg #[.string q.x,.string q.y,.string q.z],.bool true]) ((W.alloc (.cells #[.string p.x,.string p.y,.string p.z] 25)).alloc (.cells #[.string ⟨#[]⟩,.string ⟨#[]⟩,.string ⟨#[]⟩] 25)))
  (hq : q≠p) (hF : FS W lb fb mb L)
  (hI : ∀ V,FS V lb fb mb L→Calls Tryz.prog 76 #[.agg #[.string q.x,.string q.y,.string q.z],.pointer (some ⟨lb,0,none⟩),.pointer (some ⟨fb,0,none⟩)] V fun e w'=>e=.returned (.agg #[.string r.x,.string r.y,.string r.z])∧∃ L',P L'∧w'.heap[mb]?=some (Mo SV.val SV.val L')∧GK V mb w') :
  Calls Tryz.prog 76 #[.agg #[.string p.x,.string p.y,.string p.z],.pointer (some ⟨lb,0,none⟩),.pointer (some ⟨fb,0,none⟩)] W fun e w'=>e=.returned (.agg #[.string r.x,.string r.y,.string r.z])∧(∃ L',P L'∧w'.heap[mb]?=some (Mo SV.val SV.val (kset L' p r)))∧GK W mb w':=by
 have c0:=hF.map
 have c1:=hF.self
 have lt0:=World.block_lt_of_cell? W _ c0
 have lt1:=World.block_lt_of_cell? W _ c1
 have ltm:=mp_lt hF.here
 have k2 : ((W.alloc (.cells #[.string p.x,.string p.y,.string p.z] 25)).alloc (.cells #[.string ⟨#[]⟩,.string ⟨#[]⟩,.string ⟨#[]⟩] 25)).cell? ⟨lb,0,none⟩=some (.map (some mb)):=cal (cal c0)
 have nq : ∀ w,(binOp .neq 25 (.agg #[.string q.x,.string q.y,.string q.z]) (.agg #[.string p.x,.string p.y,.string p.z])).run Tryz.prog w=.ok (.bool true) w:=fun w=>by
  have:=neq_vec q.x q.y q.z p.x p.y p.z w
  rw [sv_eq,decide_eq_false hq] at this
  exact this
 have m3 : (((W.alloc (.cells #[.string p.x,.string p.y,.string p.z] 25)).alloc (.cells #[.string ⟨#[]⟩,.string ⟨#[]⟩,.string ⟨#[]⟩] 25)).alloc (.cells #[.string q.x,.string q.y,.string q.z] 25)).heap[mb]?=some (Mo SV.val SV.val L):=mp_alloc (mp_alloc (mp_alloc hF.here))
 have g3 : GK W mb (((W.alloc (.cells #[.string p.x,.string p.y,.string p.z] 25)).alloc (.cells #[.string ⟨#[]⟩,.string ⟨#[]⟩,.string ⟨#[]⟩] 25)).alloc (.cells #[.string q.x,.string q.y,.string q.z] 25)):=gk_alloc (gk_alloc (gk_alloc (gk_refl _ _)))
 have k3 : (((W.alloc (.cells #[.string p.x,.string p.y,.string p.z] 25)).alloc (.cells #[.string ⟨#[]⟩,.string ⟨#[]⟩,.string ⟨#[]⟩] 25)).alloc (.cells #[.string q.x,.string q.y,.string q.z] 25)).cell? ⟨lb,0,none⟩=some (.map (some mb)):=cal (cal (cal c0))
 have kf : (((W.alloc (.cells #[.string p.x,.string p.y,.string p.z] 25)).alloc (.cells #[.string ⟨#[]⟩,.string ⟨#[]⟩,.string ⟨#[]⟩] 25)).alloc (.cells #[.string q.x,.string q.y,.string q.z] 25)).cell? ⟨fb,0,none⟩=some (fv lb fb):=cal (cal (cal c1))
 have x0 : (((W.alloc (.cells #[.string p.x,.string p.y,.string p.z] 25)).alloc (.cells #[.string ⟨#[]⟩,.string ⟨#[]⟩,.string ⟨#[]⟩] 25)).alloc (.cells #[.string q.x,.string q.y,.string q.z] 25)).cell? ⟨W.heap.size,0,none⟩=some (.string p.x):=by go_simp
 have y0 : (((W.alloc (.cells #[.string p.x,.string p.y,.string p.z] 25)).alloc (.cells #[.string ⟨#[]⟩,.string ⟨#[]⟩,.string ⟨#[]⟩] 25)).alloc (.cells #[.string q.x,.string q.y,.string q.z] 25)).cell? ⟨W.heap.size+1+1,0,none⟩=some (.string q.x):=by go_simp
 have o0 : (((W.alloc (.cells #[.string p.x,.string p.y,.string p.z] 25)).alloc (.cells #[.string ⟨#[]⟩,.string ⟨#[]⟩,.string ⟨#[]⟩] 25)).alloc (.cells #[.string q.x,.string q.y,.string q.z] 25)).cell? ⟨W.heap.size+1,0,none⟩=some (.string ⟨#[]⟩):=by go_simp
 have f0 : (((W.alloc (.cells #[.string p.x,.string p.y,.string p.z] 25)).alloc (.cells #[.string ⟨#[]⟩,.string ⟨#[]⟩,.string ⟨#[]⟩] 25)).alloc (.cells #[.string q.x,.string q.y,.string q.z] 25)).frozen? ⟨W.heap.size+1,0,none⟩=false:=by go_simp
 have x1 : (((W.alloc (.cells #[.string p.x,.string p.y,.string p.z] 25)).alloc (.cells #[.string ⟨#[]⟩,.string ⟨#[]⟩,.string ⟨#[]⟩] 25)).alloc (.cells #[.string q.x,.string q.y,.string q.z] 25)).cell? ⟨W.heap.size,1,none⟩=some (.string p.y):=by go_simp
 have y1 : (((W.alloc (.cells #[.string p.x,.string p.y,.string p.z] 25)).alloc (.cells #[.string ⟨#[]⟩,.string ⟨#[]⟩,.string ⟨#[]⟩] 25)).alloc (.cells #[.string q.x,.string q.y,.string q.z] 25)).cell? ⟨W.heap.size+1+1,1,none⟩=some (.string q.y):=by go_simp
 have o1 : (((W.alloc (.cells #[.string p.x,.string p.y,.string p.z] 25)).alloc (.cells #[.string ⟨#[]⟩,.string ⟨#[]⟩,.string ⟨#[]⟩] 25)).alloc (.cells #[.string q.x,.string q.y,.string q.z] 25)).cell? ⟨W.heap.size+1,1,none⟩=some (.string ⟨#[]⟩):=by go_simp
 have f1 : (((W.alloc (.cells #[.string p.x,.string p.y,.string p.z] 25)).alloc (.cells #[.string ⟨#[]⟩,.string ⟨#[]⟩,.string ⟨#[]⟩] 25)).alloc (.cells #[.string q.x,.string q.y,.string q.z] 25)).frozen? ⟨W.heap.size+1,1,none⟩=false:=by go_simp
 have x2 : (((W.alloc (.cells #[.string p.x,.string p.y,.string p.z] 25)).alloc (.cells #[.string ⟨#[]⟩,.string ⟨#[]⟩,.string ⟨#[]⟩] 25)).alloc (.cells #[.string q.x,.string q.y,.string q.z] 25)).cell? ⟨W.heap.size,2,none⟩=some (.string p.z):=by go_simp
 have y2 : (((W.alloc (.cells #[.string p.x,.string p.y,.string p.z] 25)).alloc (.cells #[.string ⟨#[]⟩,.string ⟨#[]⟩,.string ⟨#[]⟩] 25)).alloc (.cells #[.string q.x,.string q.y,.string q.z] 25)).cell? ⟨W.heap.size+1+1,2,none⟩=some (.string q.z):=by go_simp
 have o2 : (((W.alloc (.cells #[.string p.x,.string p.y,.string p.z] 25)).alloc (.cells #[.string ⟨#[]⟩,.string ⟨#[]⟩,.string ⟨#[]⟩] 25)).alloc (.cells #[.string q.x,.string q.y,.string q.z] 25)).cell? ⟨W.heap.size+1,2,none⟩=some (.string ⟨#[]⟩):=by go_simp
 have f2 : (((W.alloc (.cells #[.string p.x,.string p.y,.string p.z] 25)).alloc (.cells #[.string ⟨#[]⟩,.string ⟨#[]⟩,.string ⟨#[]⟩] 25)).alloc (.cells #[.string q.x,.string q.y,.string q.z] 25)).frozen? ⟨W.heap.size+1,2,none⟩=false:=by go_simp
 have HI:=Lib.hid hI
 have F3 : FS (((W.alloc (.cells #[.string p.x,.string p.y,.string p.z] 25)).alloc (.cells #[.string ⟨#[]⟩,.string ⟨#[]⟩,.string ⟨#[]⟩] 25)).alloc (.cells #[.string q.x,.string q.y,.string q.z] 25)) lb fb mb L:=⟨k3,kf,m3,hF.lm,hF.fm⟩
 have NL : lb≠mb:=hF.lm
 have NF : fb≠mb:=hF.fm
 have NP : W.heap.size≠mb:=by omega
 have NQ : W.heap.size+1+1≠mb:=by omega
 have NR : W.heap.size+1≠mb:=by omega
 have nm : mb≠W.heap.size+1:=by omega
 have LU:=Lib.hid (fun (V : World) (L' : List (SV × SV)) (h : V.heap[mb]?=some (Mo SV.val SV.val L'))=>lm_update h p r)
 have LL:=Lib.hid (fun (V : World) (L' : List (SV × SV)) (h : V.heap[mb]?=some (Mo SV.val SV.val (kset L' p r)))=>(by
  have:=lm_look h p false
  rw [kget_kset,if_pos rfl] at this
  exact this : (Instr.lookup 108 (.map (some mb)) (.agg #[.string p.x,.string p.y,.string p.z]) false).run Tryz.prog V=.ok (.agg #[.string r.x,.string r.y,.string r.z]) V))
 clear hF hI hq c1
 unfold fv at kf
 generalize p.x=p1 at *
 generalize p.y=p2 at *
 generalize p.z=p3 at *
 generalize q.x=q1 at *
 generalize q.y=q2 at *
 generalize q.z=q3 at *
 generalize r.x=r1 at *
 generalize r.y=r2 at *
 generalize r.z=r3 at *
 obtain ⟨X,hX⟩ : ∃ X,X=(((W.alloc (.cells #[.string p1,.string p2,.string p3] 25)).alloc (.cells #[.string ⟨#[]⟩,.string ⟨#[]⟩,.string ⟨#[]⟩] 25)).alloc (.cells #[.string q1,.string q2,.string q3] 25)):=⟨_,rfl⟩
 rw [← hX] at k3 kf m3 g3 F3 x0 x1 x2 y0 y1 y2 o0 o1 o2 f0 f1 f2
 have ZR : W.heap.size+1<X.heap.size:=World.block_lt_of_cell? X _ o0
 have HX:=Lib.hid hX
 have G3:=Lib.hid g3
 have HF3:=Lib.hid F3
 have HM3:=Lib.hid m3
 clear hX g3 F3 m3
 go_enter Tryz.func76,Tryz.ntmps76
 go_wp2
 rw [← HX.out]
 clear hk k2 c0
 have hsd : ∀ (W : World) (b : Nat) (o : Obj),(setBlock W.drew b o).heap=(setBlock W b o).heap:=fun _ _ _=>rfl
 have hsd2 : ∀ (W : World),W.drew.heap=W.heap:=fun _=>rfl
 go_region_held3 (fun w'=>w'.cell? ⟨lb,0,none⟩=some (.map (some mb))∧w'.cell? ⟨fb,0,none⟩=some (.func (.func 76) #[] #[.pointer (some ⟨lb,0,none⟩),.pointer (some ⟨fb,0,none⟩)])∧w'.cell? ⟨W.heap.size,0,none⟩=some (.string p1)∧w'.cell? ⟨W.heap.size,1,none⟩=some (.string p2)∧w'.cell? ⟨W.heap.size,2,none⟩=some (.string p3)∧w'.cell? ⟨W.heap.size+1+1,0,none⟩=some (.string q1)∧w'.cell? ⟨W.heap.size+1+1,1,none⟩=some (.string q2)∧w'.cell? ⟨W.heap.size+1+1,2,none⟩=some (.string q3)∧w'.cell? ⟨W.heap.size+1,0,none⟩=some (.string ⟨#[]⟩)∧w'.cell? ⟨W.heap.size+1,1,none⟩=some (.string ⟨#[]⟩)∧w'.cell? ⟨W.heap.size+1,2,none⟩=some (.string ⟨#[]⟩)∧w'.frozen? ⟨W.heap.size+1,0,none⟩=false∧w'.frozen? ⟨W.heap.size+1,1,none⟩=false∧w'.frozen? ⟨W.heap.size+1,2,none⟩=false)
  ((go_split_ands; refine (fun (hT : GK X mb _)=>⟨hT.cell k3 NL,hT.cell kf NF,hT.cell x0 NP,hT.cell x1 NP,hT.cell x2 NP,hT.cell y0 NQ,hT.cell y1 NQ,hT.cell y2 NQ,hT.cell o0 NR,hT.cell o1 NR,hT.cell o2 NR,hT.frozen ZR NR f0,hT.frozen ZR NR f1,hT.frozen ZR NR f2⟩) ?_; repeat (first | with_reducible assumption | with_reducible exact gk_refl _ _ | with_reducible refine gk_drew ?_ | with_reducible refine gk_set ?_)))
  ((go_at_call 76; refine (HI.out _ (by exact fs_heap HF3.out rfl)).mono ?_; rintro e wx1 ⟨rfl,L1,hP,hm1,g1⟩; have GX : GK X mb wx1:=gk_trans (by first | exact gk_refl _ _ | exact gk_drew (gk_refl _ _)) g1; have hup : ∀ V : World,V.heap=wx1.heap→(Instr.mapUpdate 108 (.map (some mb)) (.agg #[.string p1,.string p2,.string p3]) (.agg #[.string r1,.string r2,.string r3])).run Tryz.prog V=.ok () (setBlock V mb (Mo SV.val SV.val (kset L1 p r))):=fun V h=>LU.out V L1 (by rw [h]; exact hm1); have hlk : ∀ V : World,V.heap=(setBlock wx1 mb (Mo SV.val SV.val (kset L1 p r))).heap→(Instr.lookup 108 (.map (some mb)) (.agg #[.string p1,.string p2,.string p3]) false).run Tryz.prog V=.ok (.agg #[.string r1,.string r2,.string r3]) V:=fun V h=>LL.out V L1 (by rw [h]; exact setBlock_heap hm1); have HP:=Lib.hid hP; have HM1:=Lib.hid hm1; clear hP hm1 g1))
 have HE : Hid ((setBlock wx1 mb (Mo SV.val SV.val (kset L1 p r))).heap[mb]?=some (Mo SV.val SV.val (kset L1 p r))):=Lib.hid (setBlock_heap HM1.out)
 have GE : Hid (GK W mb (setBlock wx1 mb (Mo SV.val SV.val (kset L1 p r)))):=Lib.hid (gk_trans G3.out (gk_set GX))
 have zE : W.heap.size+1<(setBlock wx1 mb (Mo SV.val SV.val (kset L1 p r))).heap.size:=by have:=GX.size; rw [setBlock_size]; omega
 go_split_ands
 go_wp2
 refine bodyPost_ret (v:=.agg #[.string r1,.string r2,.string r3]) (by simp [results,Tryz.results76,go_sem, *]) rfl ?_
 exact ⟨rfl,⟨L1,HP.out,mp_set (mp_set (mp_set HE.out nm) nm) nm⟩,gk_below GE.out ((((Below.refl W.heap.size _).setCell (by (try simp)) _).setCell (by (try simp)) _).setCell (by (try simp)) _)⟩
end Go.Proofs.YtbnbaokamccmjaaGreatDoor

/- mesh: Shells. -/
namespace Go.Proofs.YtbnbaokamccmjaaGreatDoor
open Go Go.RowKit
open Go.ChangeMaps (setBlock)
theorem find_walk (ρ : SV→Nat) (R : List (SV × SV)) (lb fb mb : Nat) : ∀ (n : Nat) (p : SV),ρ p<n→FindOk ρ R lb fb mb p:=by
 intro n
 induction n with
 | zero=>intro p h; exact absurd h (by omega)
 | succ n ih =>
  intro p hp W L hU hF
  have lk:=lm_look (W:=(W.alloc (.cells #[.string p.x,.string p.y,.string p.z] 25)).alloc (.cells #[.string ⟨#[]⟩,.string ⟨#[]⟩,.string ⟨#[]⟩] 25)) (mp_alloc (mp_alloc hF.here)) p true
  cases hk : kget L p with
  | none =>
   rw [hk] at lk
   obtain ⟨h1,h2⟩:=hU.fresh hk
   rw [h2]
   refine (find_end lb fb mb p zsv false W L lk (by simp) hF).mono ?_
   rintro e w' ⟨rfl,hm,hg⟩
   exact ⟨rfl,_,h1,hm,hg⟩
  | some q =>
   rw [hk] at lk
   by_cases hqp : q=p
   ·subst hqp
    obtain ⟨h1,h2,h3⟩:=hU.self hk
    have h4 : rootOf (touch R q) q=q:=by rw [h2]; exact h3
    rw [h4]
    refine (find_end lb fb mb q q true W L lk (fun _=>rfl) hF).mono ?_
    rintro e w' ⟨rfl,hm,hg⟩
    rw [h1] at hm
    exact ⟨rfl,L,by rw [h2]; exact hU,hm,hg⟩
   ·obtain ⟨h1,h2,h3,h4⟩:=hU.next hk hqp
    have hIH:=ih q (by omega)
    have e1 : touch R q=R:=touch_of_mem h1
    have e2 : touch R p=R:=touch_of_mem h2
    refine (find_next lb fb mb p q (rootOf R p) W L (fun L'=>UF ρ L' R) lk hqp hF ?_).mono ?_
    ·intro V hV
     refine (hIH V L hU hV).mono ?_
     rintro e w' ⟨rfl,L',h5,h6,h7⟩
     rw [e1,h3]
     rw [e1] at h5
     exact ⟨rfl,L',h5,h6,h7⟩
    ·rintro e w' ⟨rfl,⟨L',h5,h6⟩,h7⟩
     rw [e2]
     exact ⟨rfl,_,h5.press h2,h6,h7⟩
def cs (seen : Array Nat) : List (SV × SV)→Nat→Nat
 | [],_=>0
 | p :: l,n=>(if seen.contains n && decide (p.1=p.2) then 1 else 0)+cs seen l (n+1)
theorem cs_none : ∀ (l : List (SV × SV)) (n : Nat),cs #[] l n=0
 | [],_=>rfl
 | p :: l,n=>by simp [cs,cs_none l (n+1)]
theorem cs_other (seen : Array Nat) (b : Nat) : ∀ (l : List (SV × SV)) (n : Nat),b<n→cs (seen.push b) l n=cs seen l n
 | [],_,_=>rfl
 | p :: l,n,h=>by
  have e : (n == b)=false:=by simp; omega
  rw [cs,cs,cs_other seen b l (n+1) (by omega),contains_push,e,Bool.or_false]
theorem cs_push (seen : Array Nat) : ∀ (l : List (SV × SV)) (n j : Nat) (p : SV × SV),l[j]?=some p→seen.contains (n+j)=false→cs (seen.push (n+j)) l n=cs seen l n+if p.1=p.2 then 1 else 0
 | [],_,_,_,h,_=>by simp at h
 | q :: l,n,0,p,h,hs=>by
  simp at h
  subst h
  rw [Nat.add_zero] at hs ⊢
  rw [cs,cs,cs_other seen n l (n+1) (by omega),contains_push,hs]
  simp
  omega
 | q :: l,n,j+1,p,h,hs=>by
  have e : (n == n + (j+1))=false:=by simp
  have e2 : n + (j+1)=(n+1)+j:=by omega
  rw [cs,cs,contains_push,e,Bool.or_false]
  rw [e2] at hs ⊢
  rw [cs_push seen l (n+1) j p (by simpa using h) hs]
  omega
theorem cs_full (seen : Array Nat) : ∀ (l : List (SV × SV)) (n : Nat),(∀ j,j<l.length→seen.contains (n+j)=true)→cs seen l n=l.countP fun p=>decide (p.1=p.2)
 | [],_,_=>rfl
 | p :: l,n,h=>by
  have h0:=h 0 (by simp)
  rw [Nat.add_zero] at h0
  rw [cs,h0,cs_full seen l (n+1) (fun j hj=>by rw [show n+1+j=n + (j+1) by omega]; exact h (j+1) (by simpa using hj)),List.countP_cons]
  simp
  omega
theorem cs_le (seen : Array Nat) : ∀ (l : List (SV × SV)) (n : Nat),cs seen l n≤l.length
 | [],_=>Nat.le_refl _
 | p :: l,n=>by
  have:=cs_le seen l (n+1)
  rw [cs,List.length_cons]
  split<;>omega
theorem touch_len (R : List (SV × SV)) (x : SV) : (touch R x).length≤R.length+1:=by
 unfold touch
 split
 ·omega
 ·simp
theorem unite_len (R : List (SV × SV)) (x y : SV) : (unite R x y).length≤R.length+2:=by
 unfold unite graft
 rw [List.length_map]
 have h1:=touch_len (touch R x) y
 have h2:=touch_len R x
 omega
theorem shellR_snoc (l : List TV) (t : TV) : shellR (l++[t])=shellStep (shellR l) t:=by
 unfold shellR
 rw [List.foldl_append]
 rfl
theorem shellR_take {l : List TV} {k : Nat} {t : TV} (hk : l[k]?=some t) : shellR (l.take (k+1))=unite (unite (shellR (l.take k)) t.b t.a) t.c t.a:=by
 have hlt : k<l.length:=(List.getElem?_eq_some_iff.1 hk).1
 have e : l[k]=t:=(List.getElem?_eq_some_iff.1 hk).2
 rw [List.take_succ_eq_append_getElem hlt,e,shellR_snoc]
 rfl
theorem shellR_len (l : List TV) : ∀ k,k≤l.length→(shellR (l.take k)).length≤4 * k:=by
 intro k
 induction k with
 | zero=>intro _; simp [shellR]
 | succ k ih =>
  intro h
  have hg : l[k]?=some l[k]:=List.getElem?_eq_getElem (by omega)
  rw [shellR_take hg]
  have h1:=ih (by omega)
  have h2:=unite_len (shellR (l.take k)) l[k].b l[k].a
  have h3:=unite_len (unite (shellR (l.take k)) l[k].b l[k].a) l[k].c l[k].a
  omega
theorem UF.unite {ρ : SV→Nat} {L R : List (SV × SV)} {x y : SV} (h : UF ρ L (touch (touch R x) y)) : ∃ ρ',UF ρ' (kset L (rootOf (touch R x) x) (rootOf (touch (touch R x) y) y)) (unite R x y):=by
 have hx : x ∈ (touch (touch R x) y).map (·.1):=mem_touch_of (mem_touch R x) y
 have hy : y ∈ (touch (touch R x) y).map (·.1):=mem_touch (touch R x) y
 have e : rootOf (touch R x) x=rootOf (touch (touch R x) y) x:=by rw [rootOf_touch (touch R x) y]
 obtain ⟨h1,h2⟩:=h.root x hx
 obtain ⟨h3,h4⟩:=h.root y hy
 have:=h.join h1 h2 h3 h4
 unfold Go.Proofs.YtbnbaokamccmjaaGreatDoor.unite
 rw [e]
 exact this
theorem fs_step {W W1 : World} {lb fb mb : Nat} {L L1 : List (SV × SV)} (h : FS W lb fb mb L) (g : GK W mb W1) (h1 : W1.heap[mb]?=some (Mo SV.val SV.val L1)) {V : World} (e : V.heap=W1.heap) : FS V lb fb mb L1:=fs_heap (h.gk g h1) e
set_option maxHeartbeats 1000000 in
theorem mShells_bad (v : Value) (l : List TV) (z : Int) (w : World) (hB : Bw w) (hv : Ts w v l) (hs : tle l 40000000) (hz : chkC l=z) (h0 : z≠0) :
  Calls Tryz.prog 31 #[v] w fun e w'=>e=.returned (.tuple #[.int .i64 0,.int .i64 z])∧Below w.heap.size w w':=by
 have H:=Lib.hid (fun w hB hv=>check_walk v l w hB hv hs)
 rw [hz] at H
 obtain ⟨A,cap,rfl,hn,hc,hcell⟩:=hv.open
 clear hcell hn hc hs hz
 go_enter Tryz.func31,Tryz.ntmps31
 go_wp2_with fail
 refine (H.out _ (hB.below bel) (hv.below bel)).mono ?_
 rintro e w1 ⟨rfl,g1⟩
 have B1:=bn (w:=w) bel g1
 clear g1
 go_wp2
 go_ret2
 exact ⟨rfl,bel⟩
set_option maxHeartbeats 8000000 in
set_option maxRecDepth 100000 in
theorem mShells_ok (v : Value) (l : List TV) (w : World) (hB : Bw w) (hv : Ts w v l) (hs : tle l 40000000) (hz : chkC l=0) :
  Calls Tryz.prog 31 #[v] w fun e w'=>e=.returned (.tuple #[.int .i64 (shellsL l : Nat),.int .i64 0])∧Below w.heap.size w w':=by
 have H1:=Lib.hid (fun w hB hv=>check_walk v l w hB hv hs)
 have hp:=chkC_zero hz
 rw [hz] at H1
 have HV:=Lib.hid hv
 obtain ⟨A,cap,rfl,hn,hc,hcell⟩:=hv.open
 have HCL:=Lib.hid hcell
 have hn512 : l.length≤512:=by omega
 have HTE:=Lib.hid (show l.take l.length=l from List.take_length)
 have HLEN:=Lib.hid (fun k hk=>shellR_len l k hk)
 clear hcell hp hz hs hv
 obtain ⟨n,hn0⟩ : ∃ n,n=l.length:=⟨_,rfl⟩
 have HG:=Lib.hid (fun k (hk : k<n)=>(show ∃ t,l[k]?=some t from ⟨_,List.getElem?_eq_getElem (by rw [← hn0]; exact hk)⟩))
 rw [← hn0] at hn H1 HCL HV HTE hn512 HLEN ⊢
 clear hn0
 have hmm:=@run_makeMap Tryz.prog
 go_enter Tryz.func31,Tryz.ntmps31
 go_wp2_with fail
 refine (H1.out _ (hB.below bel) (HV.out.below bel)).mono ?_
 rintro e w1 ⟨rfl,g1⟩
 have B1:=bn (w:=w) bel g1
 clear g1
 have hs1:=B1.size
 obtain ⟨mb,hmb⟩ : ∃ x,x=w1.heap.size:=⟨_,rfl⟩
 obtain ⟨lb,hlb⟩ : ∃ x,x=w1.heap.size+1:=⟨_,rfl⟩
 obtain ⟨fb,hfb⟩ : ∃ x,x=w1.heap.size+1+1:=⟨_,rfl⟩
 have F0 : FS (((w1.alloc (.map #[] 0)).alloc (.cells #[.map (some w1.heap.size)] 108)).alloc (.cells #[.func (.func 76) #[] #[.pointer (some ⟨w1.heap.size+1,0,none⟩),.pointer (some ⟨w1.heap.size+1+1,0,none⟩)]] 93)) lb fb mb []:=⟨by rw [hmb,hlb]; go_simp,by rw [hfb,hlb]; unfold fv; go_simp,by rw [hmb]; exact mp_alloc (mp_alloc (heap_new w1 _)),by omega,by omega⟩
 have hmb1 : w.heap.size≤mb:=by omega
 have BE : Below w.heap.size w (((w1.alloc (.map #[] 0)).alloc (.cells #[.map (some w1.heap.size)] 108)).alloc (.cells #[.func (.func 76) #[] #[.pointer (some ⟨w1.heap.size+1,0,none⟩),.pointer (some ⟨w1.heap.size+1+1,0,none⟩)]] 93)):=bel
 have HF0:=Lib.hid F0
 have NL : lb≠mb:=by omega
 have NF : fb≠mb:=by omega
 clear F0
 go_wp2
 rw [← hmb,← hlb,← hfb] at *
 clear hmb hlb hfb hmm
 go_loopw [21] (fun ii wr=>∃ i : Nat,i≤n∧ii=.int .i64 i∧Hid (∃ ρ L,UF ρ L (shellR (l.take i))∧FS wr lb fb mb L)∧Below w.heap.size w wr) (fun ii _=>n - (intOf ii).toNat)
 case atStart=>exact ⟨0,Nat.zero_le _,rfl,Lib.hid ⟨fun _=>0,[],UF.nil _,HF0.out⟩,BE⟩
 case round =>
  obtain ⟨i,hi,rfl,hu,hb⟩:=hrel
  have hsz:=hb.size
  obtain ⟨ρ,L,hU,hF⟩:=hu.out
  clear hu HF0 BE
  by_cases hlt : i<n
  ·obtain ⟨t,hg⟩:=HG.out i hlt
   obtain ⟨b,off,rfl,hcl⟩:=HCL.out (by omega)
   obtain ⟨q0,q1,q2,q3,q4,q5,q6,q7,q8⟩:=ts_nine (hcl _ _ hg)
   have d0:=cell_below hb q0
   have d1:=cell_below hb q1
   have d2:=cell_below hb q2
   have d3:=cell_below hb q3
   have d4:=cell_below hb q4
   have d5:=cell_below hb q5
   have d6:=cell_below hb q6
   have d7:=cell_below hb q7
   have d8:=cell_below hb q8
   have HE:=Lib.hid (shellR_take hg)
   clear hg hcl q0 q1 q2 q3 q4 q5 q6 q7 q8
   obtain ⟨pa,pb,pc⟩:=t
   dsimp only at d0 d1 d2 d3 d4 d5 d6 d7 d8 HE
   obtain ⟨R,hR⟩ : ∃ R,R=shellR (l.take i):=⟨_,rfl⟩
   rw [← hR] at hU HE
   clear hR
   have hi0 : (0 : Int)≤(i : Int):=by omega
   have hin : (i : Int)<(n : Int):=by omega
   have m0:=hF.here
   have k0:=hF.map
   have kf:=hF.self
   have mlt:=mp_lt m0
   unfold fv at kf
   have HF:=Lib.hid hF
   have HU:=Lib.hid hU
   obtain ⟨tb,htb⟩ : ∃ x,x=wr.heap.size:=⟨_,rfl⟩
   have NT : tb≠mb:=by omega
   obtain ⟨V,hV⟩ : ∃ V,V=wr.alloc (.cells #[.string pa.x,.string pa.y,.string pa.z,.string pb.x,.string pb.y,.string pb.z,.string pc.x,.string pc.y,.string pc.z] 43):=⟨_,rfl⟩
   have FV0 : FS V lb fb mb L:=by rw [hV]; exact hF.gk (gk_alloc (gk_refl _ _)) (mp_alloc m0)
   have bV : Below w.heap.size w V:=by rw [hV]; exact ba hb
   have e0 : V.cell? ⟨tb,0,none⟩=some (.string pa.x):=by rw [hV,htb]; go_simp
   have e1 : V.cell? ⟨tb,1,none⟩=some (.string pa.y):=by rw [hV,htb]; go_simp
   have e2 : V.cell? ⟨tb,2,none⟩=some (.string pa.z):=by rw [hV,htb]; go_simp
   have e3 : V.cell? ⟨tb,3,none⟩=some (.string pb.x):=by rw [hV,htb]; go_simp
   have e4 : V.cell? ⟨tb,4,none⟩=some (.string pb.y):=by rw [hV,htb]; go_simp
   have e5 : V.cell? ⟨tb,5,none⟩=some (.string pb.z):=by rw [hV,htb]; go_simp
   have e6 : V.cell? ⟨tb,6,none⟩=some (.string pc.x):=by rw [hV,htb]; go_simp
   have e7 : V.cell? ⟨tb,7,none⟩=some (.string pc.y):=by rw [hV,htb]; go_simp
   have e8 : V.cell? ⟨tb,8,none⟩=some (.string pc.z):=by rw [hV,htb]; go_simp
   have el : V.cell? ⟨lb,0,none⟩=some (.map (some mb)):=FV0.map
   have ef : V.cell? ⟨fb,0,none⟩=some (.func (.func 76) #[] #[.pointer (some ⟨lb,0,none⟩),.pointer (some ⟨fb,0,none⟩)]):=FV0.self
   have HFV:=Lib.hid FV0
   have HFA:=Lib.hid (fun (R' : List (SV × SV)) (ρ' : SV→Nat) (p : SV)=>find_walk ρ' R' lb fb mb (ρ' p+1) p (Nat.lt_succ_self _))
   have LU:=Lib.hid (fun (V : World) (L' : List (SV × SV)) (s r : SV) (h : V.heap[mb]?=some (Mo SV.val SV.val L'))=>lm_update h s r)
   have HUN:=Lib.hid (fun (R' : List (SV × SV)) (ρ' : SV→Nat) (L' : List (SV × SV)) (x y : SV) (h : UF ρ' L' (touch (touch R' x) y))=>h.unite)
   clear hF hU m0 k0 kf FV0
   go_wp2
   rw [← hV,← htb]
   clear hV d0 d1 d2 d3 d4 d5 d6 d7 d8
   have HTB:=Lib.hid htb
   clear htb mlt
   go_region_held3 (fun w'=>w'.cell? ⟨lb,0,none⟩=some (.map (some mb))∧w'.cell? ⟨fb,0,none⟩=some (.func (.func 76) #[] #[.pointer (some ⟨lb,0,none⟩),.pointer (some ⟨fb,0,none⟩)])∧w'.cell? ⟨tb,0,none⟩=some (.string pa.x)∧w'.cell? ⟨tb,1,none⟩=some (.string pa.y)∧w'.cell? ⟨tb,2,none⟩=some (.string pa.z)∧w'.cell? ⟨tb,3,none⟩=some (.string pb.x)∧w'.cell? ⟨tb,4,none⟩=some (.string pb.y)∧w'.cell? ⟨tb,5,none⟩=some (.string pb.z)∧w'.cell? ⟨tb,6,none⟩=some (.string pc.x)∧w'.cell? ⟨tb,7,none⟩=some (.string pc.y)∧w'.cell? ⟨tb,8,none⟩=some (.string pc.z))
    ((go_split_ands; refine (fun (hT : GK V mb _)=>⟨hT.cell el NL,hT.cell ef NF,hT.cell e0 NT,hT.cell e1 NT,hT.cell e2 NT,hT.cell e3 NT,hT.cell e4 NT,hT.cell e5 NT,hT.cell e6 NT,hT.cell e7 NT,hT.cell e8 NT⟩) ?_; repeat (first | with_reducible assumption | with_reducible exact gk_refl _ _ | with_reducible refine gk_drew ?_ | with_reducible refine gk_set ?_)))
    (first | (go_at_call_of 76 (Value.agg #[Value.string pb.x,Value.string pb.y,Value.string pb.z]); refine (HFA.out (R) ρ pb _ L HU.out (by exact fs_step HFV.out (gk_refl _ _) HFV.out.here rfl)).mono ?_; rintro e y0 ⟨rfl,L0,hu0,m0,g0⟩; have G0 : GK V mb y0:=gk_trans (by first | exact gk_refl _ _ | exact gk_drew (gk_refl _ _)) g0; have U0:=Lib.hid hu0; have M0:=Lib.hid m0; clear hu0 m0 g0) | (go_at_call_of 76 (Value.agg #[Value.string pa.x,Value.string pa.y,Value.string pa.z]); refine (HFA.out (touch (R) pb) ρ pa _ L0 U0.out (by exact fs_step HFV.out G0 M0.out rfl)).mono ?_; rintro e y1 ⟨rfl,L1,hu1,m1,g1⟩; have G1 : GK V mb y1:=gk_trans (by first | exact G0 | exact gk_drew G0) g1; have U1:=Lib.hid hu1; have M1:=Lib.hid m1; have hup1 : ∀ X : World,X.heap=y1.heap→(Instr.mapUpdate 108 (.map (some mb)) (rootOf (touch (R) pb) pb).val (rootOf (touch (touch (R) pb) pa) pa).val).run Tryz.prog X=.ok () (setBlock X mb (Mo SV.val SV.val (kset L1 (rootOf (touch (R) pb) pb) (rootOf (touch (touch (R) pb) pa) pa)))):=fun X h=>LU.out X L1 _ _ (by rw [h]; exact M1.out); clear hu1 m1 g1))
   obtain ⟨ρ1,hU1⟩:=HUN.out (R) ρ L1 pb pa U1.out
   obtain ⟨Ln1,hLn⟩ : ∃ z,z=kset L1 (rootOf (touch (R) pb) pb) (rootOf (touch (touch (R) pb) pa) pa):=⟨_,rfl⟩
   rw [← hLn] at hU1 ⊢
   obtain ⟨Y1,hY⟩ : ∃ z,z=setBlock y1 mb (Mo SV.val SV.val Ln1):=⟨_,rfl⟩
   have GY1 : GK V mb Y1:=by rw [hY]; exact gk_set G1
   have MY1 : Hid (Y1.heap[mb]?=some (Mo SV.val SV.val Ln1)):=Lib.hid (by rw [hY]; exact setBlock_heap M1.out)
   have HU1:=Lib.hid hU1
   rw [← hY]
   clear hLn hY hU1 hup1 G0 G1
   go_wp2
   go_region_held3 (fun w'=>w'.cell? ⟨lb,0,none⟩=some (.map (some mb))∧w'.cell? ⟨fb,0,none⟩=some (.func (.func 76) #[] #[.pointer (some ⟨lb,0,none⟩),.pointer (some ⟨fb,0,none⟩)])∧w'.cell? ⟨tb,0,none⟩=some (.string pa.x)∧w'.cell? ⟨tb,1,none⟩=some (.string pa.y)∧w'.cell? ⟨tb,2,none⟩=some (.string pa.z)∧w'.cell? ⟨tb,3,none⟩=some (.string pb.x)∧w'.cell? ⟨tb,4,none⟩=some (.string pb.y)∧w'.cell? ⟨tb,5,none⟩=some (.string pb.z)∧w'.cell? ⟨tb,6,none⟩=some (.string pc.x)∧w'.cell? ⟨tb,7,none⟩=some (.string pc.y)∧w'.cell? ⟨tb,8,none⟩=some (.string pc.z))
    ((go_split_ands; refine (fun (hT : GK V mb _)=>⟨hT.cell el NL,hT.cell ef NF,hT.cell e0 NT,hT.cell e1 NT,hT.cell e2 NT,hT.cell e3 NT,hT.cell e4 NT,hT.cell e5 NT,hT.cell e6 NT,hT.cell e7 NT,hT.cell e8 NT⟩) ?_; repeat (first | with_reducible assumption | with_reducible exact gk_refl _ _ | with_reducible refine gk_drew ?_ | with_reducible refine gk_set ?_)))
    (first | (go_at_call_of 76 (Value.agg #[Value.string pc.x,Value.string pc.y,Value.string pc.z]); refine (HFA.out (unite R pb pa) ρ1 pc _ Ln1 HU1.out (by exact fs_step HFV.out GY1 MY1.out rfl)).mono ?_; rintro e y2 ⟨rfl,L2,hu2,m2,g2⟩; have G2 : GK V mb y2:=gk_trans (by first | exact GY1 | exact gk_drew GY1) g2; have U2:=Lib.hid hu2; have M2:=Lib.hid m2; clear hu2 m2 g2) | (go_at_call_of 76 (Value.agg #[Value.string pa.x,Value.string pa.y,Value.string pa.z]); refine (HFA.out (touch (unite R pb pa) pc) ρ1 pa _ L2 U2.out (by exact fs_step HFV.out G2 M2.out rfl)).mono ?_; rintro e y3 ⟨rfl,L3,hu3,m3,g3⟩; have G3 : GK V mb y3:=gk_trans (by first | exact G2 | exact gk_drew G2) g3; have U3:=Lib.hid hu3; have M3:=Lib.hid m3; have hup3 : ∀ X : World,X.heap=y3.heap→(Instr.mapUpdate 108 (.map (some mb)) (rootOf (touch (unite R pb pa) pc) pc).val (rootOf (touch (touch (unite R pb pa) pc) pa) pa).val).run Tryz.prog X=.ok () (setBlock X mb (Mo SV.val SV.val (kset L3 (rootOf (touch (unite R pb pa) pc) pc) (rootOf (touch (touch (unite R pb pa) pc) pa) pa)))):=fun X h=>LU.out X L3 _ _ (by rw [h]; exact M3.out); clear hu3 m3 g3))
   obtain ⟨ρ2,hU2⟩:=HUN.out (unite R pb pa) ρ1 L3 pc pa U3.out
   obtain ⟨Ln2,hLn⟩ : ∃ z,z=kset L3 (rootOf (touch (unite R pb pa) pc) pc) (rootOf (touch (touch (unite R pb pa) pc) pa) pa):=⟨_,rfl⟩
   rw [← hLn] at hU2 ⊢
   obtain ⟨Y2,hY⟩ : ∃ z,z=setBlock y3 mb (Mo SV.val SV.val Ln2):=⟨_,rfl⟩
   have GY2 : GK V mb Y2:=by rw [hY]; exact gk_set G3
   have MY2 : Hid (Y2.heap[mb]?=some (Mo SV.val SV.val Ln2)):=Lib.hid (by rw [hY]; exact setBlock_heap M3.out)
   have HU2:=Lib.hid hU2
   rw [← hY]
   clear hLn hY hU2 hup3 G2 G3
   have HUF : Hid (∃ ρ L,UF ρ L (shellR (l.take (i+1)))∧FS Y2 lb fb mb L):=Lib.hid ⟨ρ2,Ln2,by rw [HE.out]; exact HU2.out,fs_step HFV.out GY2 MY2.out rfl⟩
   have hbY : Below w.heap.size w Y2:=bV.trans (GY2.to_below hmb1 bV.size)
   clear GY1 GY2
   go_wp2
   go_roundw
   case rel=>exact ⟨i+1,by omega,by go_num,HUF,hbY⟩
   case measure=>simp [intOf]; omega
  ·obtain rfl : i=n:=by omega
   rw [HTE.out] at hU
   have hm:=hF.here
   have km:=hF.map
   have hLl : L.length≤2048:=by
    have h1:=congrArg List.length hU.keys
    rw [List.length_map,List.length_map] at h1
    have h2:=HLEN.out i (Nat.le_refl _)
    rw [HTE.out] at h2
    omega
   have HCT : Hid ((L.countP fun p=>decide (p.1=p.2))=shellsL l):=Lib.hid hU.count
   have hrn:=mo_range (P:=Tryz.prog) under_lm hm
   have hrs:=rg_start (f:=SV.val) (g:=SV.val) hm
   obtain ⟨r,hr⟩ : ∃ r,r=wr.heap.size:=⟨_,rfl⟩
   have hr1 : w.heap.size≤r:=by omega
   rw [← hr] at hrn hrs
   have HR:=Lib.hid hr
   have hb3 : Below w.heap.size w (wr.alloc (.mapIter (some mb) L.length #[] L.length)):=ba hb
   clear hr hm hF hU
   go_wp2
   obtain ⟨wi,hwi⟩ : ∃ x,x=wr:=⟨_,rfl⟩
   subst hwi
   go_loopw [9] (fun s9 wr=>(∃ seen,Rg wr r mb SV.val SV.val L seen∧s9=.int .i64 (cs seen L 0 : Nat))∧Below w.heap.size w wr) (fun _ wr=>rgLeft L SV.val SV.val (wr.iterSeen r))
   case atStart=>exact ⟨⟨#[],hrs,by rw [cs_none]; rfl⟩,hb3⟩
   case round =>
    obtain ⟨⟨seen,hrg,rfl⟩,hb4⟩:=hrel
    have hsz4:=hb4.size
    have hcl:=cs_le seen L 0
    rcases rg_next (P:=Tryz.prog) hrg 0 with ⟨hall,hrun⟩ | ⟨j,⟨sa,sb⟩,w',hp,hsj,hrun,hrg2,hlt3,⟨w2,hw1,hw2⟩,hen⟩
    ·have E : Hid (cs seen L 0=shellsL l):=Lib.hid (by rw [cs_full seen L 0 (fun j hj=>by rw [Nat.zero_add]; exact hall j hj)]; exact HCT.out)
     clear hall hrg HCL HG
     go_wp2
     go_ret2
     exact ⟨by rw [← E.out]; rfl,bel⟩
    ·have hb5 : Below w.heap.size w w':=by
      rw [hw2]
      rcases hw1 with rfl | rfl
      ·exact below_setBlock hb4 hr1 _
      ·exact below_setBlock (bd hb4) hr1 _
     have HME:=Lib.hid hlt3
     have HGr:=Lib.hid hrg
     have HG3:=Lib.hid hrg2
     have HCS:=Lib.hid (cs_push seen L 0 j (sa,sb) hp (by rw [Nat.zero_add]; exact hsj))
     rw [Nat.zero_add] at HCS
     have nq : ∀ w,(binOp .eql 25 (.agg #[.string sa.x,.string sa.y,.string sa.z]) (.agg #[.string sb.x,.string sb.y,.string sb.z])).run Tryz.prog w=.ok (.bool (decide (sa=sb))) w:=fun w=>by
      have:=eql_vec sa.x sa.y sa.z sb.x sb.y sb.z w
      rw [sv_eq] at this
      exact this
     unfold SV.val at hrun hen
     dsimp only at hrun hen
     have hsz5:=hb5.size
     obtain ⟨c,hc0⟩ : ∃ c,c=cs seen L 0:=⟨_,rfl⟩
     rw [← hc0] at HCS hcl ⊢
     have hc1 : (c : Int)≤2048:=by omega
     have hc2 : (0 : Int)≤(c : Int):=by omega
     clear hp hsj hlt3 hw1 hw2 hrg hrg2 HCL HG hc0
     by_cases hs : sa=sb
     ·have hs2 : decide (sa=sb)=true:=by simp [hs]
      have E : Hid (cs (seen.push j) L 0=c+1):=Lib.hid (by rw [HCS.out]; simp [hs])
      rw [hs2] at nq
      clear HCS hs hs2
      go_wp2
      go_roundw
      case rel=>exact ⟨⟨_,Rg_alloc (Rg_alloc HG3.out),by rw [E.out]; rfl⟩,bel⟩
      case measure=>rw [rg_seen (Rg_alloc (Rg_alloc HG3.out)),rg_seen HGr.out]; exact HME.out
     ·have hs2 : decide (sa=sb)=false:=by simp [hs]
      have E : Hid (cs (seen.push j) L 0=c):=Lib.hid (by rw [HCS.out]; simp [hs])
      rw [hs2] at nq
      clear HCS hs hs2
      go_wp2
      go_roundw
      case rel=>exact ⟨⟨_,Rg_alloc (Rg_alloc HG3.out),by rw [E.out]⟩,bel⟩
      case measure=>rw [rg_seen (Rg_alloc (Rg_alloc HG3.out)),rg_seen HGr.out]; exact HME.out
end Go.Proofs.YtbnbaokamccmjaaGreatDoor
