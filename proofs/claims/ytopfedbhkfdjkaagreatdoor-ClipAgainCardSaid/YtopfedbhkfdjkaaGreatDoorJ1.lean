/- lemmas. -/
import Derived.Test.YtopfedbhkfdjkaaGreatDoorE9
import Derived.Maps.RangeRun
import Derived.Below
import Derived.Test.YtopfedbhkfdjkaaGreatDoorE4
import Derived.Test.YtopfedbhkfdjkaaGreatDoorE8
import Derived.Test.YtopfedbhkfdjkaaGreatDoorEB
import Derived.Test.YtopfedbhkfdjkaaGreatDoorEC
import Derived.Test.YtopfedbhkfdjkaaGreatDoorEA
import Derived.Test.YtopfedbhkfdjkaaGreatDoorED
import Derived.Test.YtopfedbhkfdjkaaGreatDoorEF
import Derived.Test.YtopfedbhkfdjkaaGreatDoorEE
import Derived.Test.YtopfedbhkfdjkaaGreatDoorEG
import Derived.Deep.MidRow
import Derived.Deep.RegionLaw
import Derived.Test.YtopfedbhkfdjkaaGreatDoorF3
import Derived.Test.YtopfedbhkfdjkaaGreatDoorF1
set_option linter.unusedVariables false
set_option linter.unusedSimpArgs false
namespace Go.Proofs.YtopfedbhkfdjkaaGreatDoor
open Go Go.RowKit
open Go.ChangeMaps (setBlock)
section
variable {κ υ : Type}
variable {f : κ→Value} {g : υ→Value}
theorem cell_setBlock {W : World} {b : Nat} {o : Obj} {m : Array MapEntry} {c : Nat} (hb : W.heap[b]?=some (.map m c)) {p : Addr} {v : Value} (h : W.cell? p=some v) : (setBlock W b o).cell? p=some v:=by
 have hne : p.block≠b:=by
  intro e
  rw [World.cell?,e,hb] at h
  simp at h
 unfold World.cell? at h ⊢
 rw [setBlock_far hne]
 exact h
end
section
variable {κ υ : Type} [DecidableEq κ] {f : κ→Value} {g : υ→Value}
theorem mo_update {P : Program} {t kt et : TypeId} (K : KL P kt f) (ht : P.underlying t=some (.map kt et)) {w : World} {b : Nat} {l : List (κ × υ)} (hb : w.heap[b]?=some (Mo f g l)) (x : κ) (v : υ) :
  (Instr.mapUpdate t (.map (some b)) (f x) (g v)).run P w=.ok () (setBlock w b (Mo f g (kset l x v))):=by
 have hf:=findKey_ents (g:=g) K x w l
 unfold Mo at hb
 have hk:=K.chk false x w
 cases hp : kpos l x with
 | none =>
  rw [hp] at hf
  simp only [Option.bind_none] at hf
  simp only [Instr.mapUpdate,Sem.run_bind,run_underlying ht,MapKept.run_getObj_map hb,Result.andThen,hk,List.toList_toArray,hf,MapKept.run_setObj_map _ hb]
  rw [kset_none hp]
  have e : Mo f g (l++[(x,v)])=.map ((ents f g l 0).toArray.push { key:=f x,val:=g v,born:=l.length }) (l.length+1):=by
   rw [Mo,ents_append]
   simp [ents]
  rw [e]
  rfl
 | some j =>
  obtain ⟨u,h1,h2⟩:=kpos_lt hp
  rw [hp] at hf
  simp only [Option.bind_some,h1,Option.map_some] at hf
  have hkey : ((((ents f g l 0).toArray)[j]?).map (·.key)).getD (f x)=f x:=by
   rw [List.getElem?_toArray,ents_get,h1]
   rfl
  simp only [Instr.mapUpdate,Sem.run_bind,run_underlying ht,MapKept.run_getObj_map hb,Result.andThen,hk,List.toList_toArray,hf,hkey,Instr.keyThatStays,K.bits x,if_true,Sem.run_pure,MapKept.run_setObj_map _ hb]
  rw [kset_some hp]
  have e : Mo f g (l.set j (x,v))=.map ((ents f g l 0).toArray.modify j fun e=>{ e with key:=f x,val:=g v }) l.length:=by
   rw [Mo,ents_set,List.length_set]
   simp
  rw [e]
  rfl
end
end Go.Proofs.YtopfedbhkfdjkaaGreatDoor

namespace Go.Proofs.YtopfedbhkfdjkaaGreatDoor
open Go Go.RowKit
section
variable {α β : Type}
def Tr.pts (t : Tr α) : List α:=[t.a,t.b,t.c]
def tpts (l : List (Tr α)) : List α:=l.flatMap Tr.pts
theorem tpts_length (l : List (Tr α)) : (tpts l).length=l.length * 3:=by
 induction l with
 | nil=>rfl
 | cons t l ih =>
  show (t.pts++tpts l).length=_
  rw [List.length_append,ih,List.length_cons]
  simp [Tr.pts]; omega
variable [DecidableEq α] [DecidableEq β]
def nub (l : List α) : List α:=l.foldl (fun out x=>if x ∈ out then out else out++[x]) []
def nubStep (out : List α) (x : α) : List α:=if x ∈ out then out else out++[x]
theorem nub_snoc (l : List α) (x : α) : nub (l++[x])=nubStep (nub l) x:=by
 unfold nub nubStep
 rw [List.foldl_append]
 rfl
theorem mem_nubStep (out : List α) (x y : α) : y ∈ nubStep out x↔y ∈ out∨y=x:=by
 unfold nubStep
 split
 ·exact ⟨.inl,fun h=>h.elim id (fun e=>by rw [e]; assumption)⟩
 ·simp
theorem mem_nub_aux (l : List α) : ∀ (out : List α) (y : α),y ∈ l.foldl nubStep out↔y ∈ out∨y ∈ l:=by
 induction l with
 | nil=>simp
 | cons a l ih =>
  intro out y
  rw [List.foldl_cons,ih,mem_nubStep,List.mem_cons]
  constructor
  ·rintro ((h | h) | h)
   ·exact .inl h
   ·exact .inr (.inl h)
   ·exact .inr (.inr h)
  ·rintro (h | h | h)
   ·exact .inl (.inl h)
   ·exact .inl (.inr h)
   ·exact .inr h
theorem nub_eq (l : List α) : nub l=l.foldl nubStep []:=rfl
theorem mem_nub (l : List α) (y : α) : y ∈ nub l↔y ∈ l:=by
 rw [nub_eq,mem_nub_aux]
 simp
theorem nub_length_aux (l : List α) : ∀ (out : List α),(l.foldl nubStep out).length≤out.length+l.length:=by
 induction l with
 | nil=>simp
 | cons a l ih =>
  intro out
  have:=ih (nubStep out a)
  have h2 : (nubStep out a).length≤out.length+1:=by unfold nubStep; split<;>simp
  simp only [List.foldl_cons,List.length_cons]
  omega
theorem nub_length (l : List α) : (nub l).length≤l.length:=by
 have:=nub_length_aux l ([] : List α)
 rw [nub_eq]
 simpa using this
def pointsL (l : List (Tr α)) : List α:=nub (tpts l)
end
end Go.Proofs.YtopfedbhkfdjkaaGreatDoor

namespace Go.Proofs.YtopfedbhkfdjkaaGreatDoor
open Go Go.RowKit
section
variable {α β : Type}
theorem tpts_map (f : α→β) (l : List (Tr α)) : tpts (l.map (Tr.map f))=(tpts l).map f:=by
 induction l with
 | nil=>rfl
 | cons t l ih =>
  show Tr.pts (Tr.map f t)++tpts (l.map (Tr.map f))=(t.pts++tpts l).map f
  rw [ih,List.map_append]
  rfl
end
section
variable {α β : Type} [DecidableEq α] [DecidableEq β]
variable {f : α→β} (hf : ∀ x y,f x=f y→x=y)
include hf
theorem nubStep_map (out : List α) (x : α) : nubStep (out.map f) (f x)=(nubStep out x).map f:=by
 unfold nubStep
 by_cases h : x ∈ out
 ·rw [if_pos h,if_pos (List.mem_map_of_mem h)]
 ·have : f x ∉ out.map f:=by
   intro h2
   obtain ⟨y,hy,e⟩:=List.mem_map.1 h2
   exact h (hf _ _ e ▸ hy)
  rw [if_neg h,if_neg this,List.map_append]
  rfl
theorem nub_map (l : List α) : nub (l.map f)=(nub l).map f:=by
 have : ∀ (l : List α) (out : List α),(l.map f).foldl nubStep (out.map f)=(l.foldl nubStep out).map f:=by
  intro l
  induction l with
  | nil=>intro out; rfl
  | cons a l ih =>
   intro out
   rw [List.map_cons,List.foldl_cons,List.foldl_cons,nubStep_map hf,ih]
 exact this l []
theorem pointsL_map (l : List (Tr α)) : pointsL (l.map (Tr.map f))=(pointsL l).map f:=by
 unfold pointsL
 rw [tpts_map,nub_map hf]
end
end Go.Proofs.YtopfedbhkfdjkaaGreatDoor

namespace Go.Proofs.YtopfedbhkfdjkaaGreatDoor
open Go Go.RowKit
def bv (b : Bool) : Value:=.bool b
end Go.Proofs.YtopfedbhkfdjkaaGreatDoor

namespace Go.Proofs.YtopfedbhkfdjkaaGreatDoor
open Go Go.RowKit
open Go.ChangeMaps (setBlock)
theorem equal_vec (a b c d e f : ByteArray) (w : World) : (Op.equal 26 (.agg #[.string a,.string b,.string c]) (.agg #[.string d,.string e,.string f])).run Tryz.prog w=.ok (a.toList == d.toList && (b.toList == e.toList && c.toList == f.toList)) w:=by
 unfold Op.equal Op.maxDepth
 go_simp
 by_cases h1 : a.toList=d.toList<;>by_cases h2 : b.toList=e.toList<;>by_cases h3 : c.toList=f.toList<;>simp [h1,h2,h3]
theorem chk_vec (e : Bool) (a b c : ByteArray) (w : World) : (Instr.checkKey e 10000 26 (.agg #[.string a,.string b,.string c])).run Tryz.prog w=.ok () w:=by kernel_rfl
theorem kl_vec : KL Tryz.prog 26 SV.val where
 chk:=fun e x w=>chk_vec e x.x x.y x.z w
 eq:=fun x y w=>by
  have:=equal_vec x.x x.y x.z y.x y.y y.z w
  rw [sv_eq] at this
  exact this
 und:=⟨_,Tryz.underlying26,fun _ _=>rfl⟩
 bits:=fun x=>by unfold SV.val; simp [Instr.sameBits,bytes_same]
end Go.Proofs.YtopfedbhkfdjkaaGreatDoor

namespace Go.Proofs.YtopfedbhkfdjkaaGreatDoor
open Go Go.RowKit
open Go.ChangeMaps (setBlock)
theorem own_setBlock {W : World} {mb base sz n : Nat} {e : TypeId} {v : Value} {xs : List Value} {m : Array MapEntry} {c : Nat} {o : Obj} (h : W.ownsRow base e sz v n xs) (hb : W.heap[mb]?=some (.map m c)) : (setBlock W mb o).ownsRow base e sz v n xs:=by
 refine ⟨h.1, ?_⟩
 rcases h.2 with h2 | ⟨g,cap,cur,h1,h2,h3,h4⟩
 ·exact .inl h2
 ·have hne : g≠mb:=by
   intro e
   rw [e,hb] at h3
   cases h3
  exact .inr ⟨g,cap,cur,h1,h2,(setBlock_far hne).trans h3,h4⟩
theorem map_grown {W W1 : World} {mb base sz n : Nat} {e : TypeId} {v : Value} {xs : List Value} {m : Array MapEntry} {c : Nat} (h : W.ownsRow base e sz v n xs) (hb : W.heap[mb]?=some (.map m c)) (hg : W.grownBy W1 v.ownBlock) : W1.heap[mb]?=some (.map m c):=by
 refine (hg.block mb (Array.getElem?_eq_some_iff.1 hb).1 ?_).trans hb
 intro hv
 rcases h.2 with ⟨rfl,_⟩ | ⟨g,cap,cur,rfl,_,h3,_⟩
 ·cases hv
 ·have : mb=g:=Option.some.inj hv
  rw [← this,hb] at h3
  cases h3
theorem under_vm : Tryz.prog.underlying 193=some (.map 26 4):=Tryz.underlying193
theorem zero_bool (w : World) : (zeroValue 4).run Tryz.prog w=.ok (bv false) w:=by unfold bv; kernel_rfl
def seenM (out : List SV) : List (SV × Bool):=out.map fun s=>(s,true)
theorem seenM_get (out : List SV) (s : SV) : (kget (seenM out) s).getD false=decide (s ∈ out):=by
 induction out with
 | nil=>rfl
 | cons a out ih =>
  by_cases h : s=a
  ·have : kget (seenM (a :: out)) s=some true:=by simp [seenM,kget,h]
   rw [this]
   simp [h]
  ·have : kget (seenM (a :: out)) s=kget (seenM out) s:=by simp [seenM,kget,h]
   rw [this,ih]
   simp [h]
theorem seenM_set {out : List SV} {s : SV} (h : s ∉ out) : kset (seenM out) s true=seenM (out++[s]):=by
 induction out with
 | nil=>rfl
 | cons a out ih =>
  have h1 : s≠a:=fun e=>h (by simp [e])
  have h2 : s ∉ out:=fun e=>h (by simp [e])
  show kset ((a,true) :: seenM out) s true=_
  rw [kset,if_neg h1,ih h2]
  rfl
theorem vm_lookup {W : World} {mb : Nat} {out : List SV} (h : W.heap[mb]?=some (Mo SV.val bv (seenM out))) (s : SV) :
  (Instr.lookup 193 (.map (some mb)) (.agg #[.string s.x,.string s.y,.string s.z]) false).run Tryz.prog W=.ok (.bool (decide (s ∈ out))) W:=by
 have:=mo_lookup (g:=bv) kl_vec under_vm h s false (zero_bool W) false
 rw [seenM_get] at this
 exact this
theorem vm_update {W : World} {mb : Nat} {out : List SV} (h : W.heap[mb]?=some (Mo SV.val bv (seenM out))) {s : SV} (hs : s ∉ out) :
  (Instr.mapUpdate 193 (.map (some mb)) (.agg #[.string s.x,.string s.y,.string s.z]) (.bool true)).run Tryz.prog W=.ok () (setBlock W mb (Mo SV.val bv (seenM (out++[s])))):=by
 have:=mo_update (g:=bv) kl_vec under_vm h s true
 rw [seenM_set hs] at this
 exact this
theorem nub_in {l : List SV} {s : SV} (h : s ∈ nub l) : nub (l++[s])=nub l:=by rw [nub_snoc,nubStep,if_pos h]
theorem nub_out {l : List SV} {s : SV} (h : s ∉ nub l) : nub (l++[s])=nub l++[s]:=by rw [nub_snoc,nubStep,if_neg h]
theorem take_pts {l : List TV} {k : Nat} {t : TV} (hk : l[k]?=some t) : tpts (l.take (k+1))=tpts (l.take k)++[t.a]++[t.b]++[t.c]:=by
 have hlt : k<l.length:=(List.getElem?_eq_some_iff.1 hk).1
 have e : l[k]=t:=(List.getElem?_eq_some_iff.1 hk).2
 rw [List.take_succ_eq_append_getElem hlt,e]
 unfold tpts
 rw [List.flatMap_append]
 simp [Tr.pts]
set_option maxHeartbeats 4000000 in
set_option maxRecDepth 100000 in
theorem points_walk (v : Value) (l : List TV) (w : World) (hB : Bw w) (hv : Ts w v l) (hm : l.length≤1000000) :
  Calls Tryz.prog 75 #[v] w (Ret fun u w'=>Vs w' u (pointsL l)∧Below w.heap.size w w'):=by
 obtain ⟨A,cap,rfl,hn,hc,hcell⟩:=hv.open
 have HCL:=Lib.hid hcell
 have HTE:=Lib.hid (show l.take l.length=l from List.take_length)
 obtain ⟨n,hn0⟩ : ∃ n,n=l.length:=⟨_,rfl⟩
 have HG:=Lib.hid (fun k (hk : k<n)=>(show ∃ t,l[k]?=some t from ⟨_,List.getElem?_eq_getElem (by rw [← hn0]; exact hk)⟩))
 have HNL:=Lib.hid (fun k=>(show (nub (tpts (l.take k))).length≤n * 3 from by
  have h1:=nub_length (tpts (l.take k))
  rw [tpts_length] at h1
  have:=List.length_take_le k l
  have h2 : (l.take k).length≤l.length:=by rw [List.length_take]; omega
  omega))
 rw [← hn0] at hn hm HCL HTE ⊢
 clear hn0 hv hcell
 have ix0:=ix_tri0
 have ix1:=ix_tri1
 have ix2:=ix_tri2
 have hmm:=@run_makeMap Tryz.prog
 go_enter Tryz.func75,Tryz.ntmps75
 go_wp2
 obtain ⟨mb,hmb⟩ : ∃ mb,mb=w.heap.size:=⟨_,rfl⟩
 have h0 : (w.alloc (.map #[] 0)).heap[mb]?=some (Mo SV.val bv (seenM [])):=by rw [hmb]; exact heap_new w _
 have hmb1 : w.heap.size≤mb:=by omega
 rw [← hmb]
 clear hmb hmm
 go_loopw [3,12] (fun ov ii wr=>∃ i : Nat,i≤n∧ii=.int .i64 i∧wr.heap[mb]?=some (Mo SV.val bv (seenM (nub (tpts (l.take i)))))∧Hid (wr.ownsRow w.heap.size 26 3 ov (nub (tpts (l.take i))).length (svs (nub (tpts (l.take i)))))∧Below w.heap.size w wr) (fun _ ii _=>n - (intOf ii).toNat)
 case atStart=>exact ⟨0,Nat.zero_le _,rfl,h0,Lib.hid (World.ownsRow_nil _ _ _ _),ba (br w)⟩
 case round =>
  obtain ⟨i,hi,rfl,hm2,hown,hb⟩:=hrel
  have hsz:=hb.size
  by_cases hlt : i<n
  ·obtain ⟨t,hg⟩:=HG.out i hlt
   obtain ⟨b,off,rfl,hcl⟩:=HCL.out (by omega)
   obtain ⟨c0,c1,c2,c3,c4,c5,c6,c7,c8⟩:=ts_nine (hcl _ _ hg)
   have d0:=cell_below hb c0
   have d1:=cell_below hb c1
   have d2:=cell_below hb c2
   have d3:=cell_below hb c3
   have d4:=cell_below hb c4
   have d5:=cell_below hb c5
   have d6:=cell_below hb c6
   have d7:=cell_below hb c7
   have d8:=cell_below hb c8
   have HE:=Lib.hid (take_pts hg)
   have HL:=Lib.hid (HNL.out i)
   clear hg hcl c0 c1 c2 c3 c4 c5 c6 c7 c8 h0
   obtain ⟨pa,pb,pc⟩:=t
   dsimp only at d0 d1 d2 d3 d4 d5 d6 d7 d8 HE
   have hi0 : (0 : Int)≤(i : Int):=by omega
   have hin : (i : Int)<(n : Int):=by omega
   obtain ⟨es,hes⟩ : ∃ es,es=tpts (l.take i):=⟨_,rfl⟩
   rw [← hes] at hm2 hown HE HL
   clear hes
   have HL0 : Hid ((nub es).length≤3000000):=Lib.hid (by have:=HL.out; omega)
   go_wp2
   obtain ⟨V0,hV0⟩ : ∃ V0,V0=wr.alloc (.cells #[.string pa.x,.string pa.y,.string pa.z,.string pb.x,.string pb.y,.string pb.z,.string pc.x,.string pc.y,.string pc.z] 36):=⟨_,rfl⟩
   rw [← hV0]
   have m0 : V0.heap[mb]?=some (Mo SV.val bv (seenM (nub es))):=by rw [hV0]; exact mp_alloc hm2
   have b0 : Below w.heap.size w V0:=by rw [hV0]; exact ba hb
   have o0 : Hid (V0.ownsRow w.heap.size 26 3 u3 (nub es).length (svs (nub es))):=by rw [hV0]; exact Lib.hid (hown.out.alloc _)
   clear hm2 hb hown hV0 d0 d1 d2 d3 d4 d5 d6 d7 d8
   refine wp_loop_rounds 4 ?_
   rw [rounds_succ]
   go_upto_block 3 with fail
   go_cut [3] (fun sx1 wx=>wx.heap[mb]?=some (Mo SV.val bv (seenM (nub (es++[pa]))))∧Hid (wx.ownsRow w.heap.size 26 3 sx1 (nub (es++[pa])).length (svs (nub (es++[pa]))))∧Below w.heap.size w wx)
   case first =>
    have hsv:=b0.size
    obtain ⟨W,hW⟩ : ∃ W,W=V0.alloc (.cells #[.string pa.x,.string pa.y,.string pa.z] 26):=⟨_,rfl⟩
    have mW : W.heap[mb]?=some (Mo SV.val bv (seenM (nub (es)))):=by rw [hW]; exact mp_alloc m0
    have lk:=vm_lookup mW pa
    have oW : W.ownsRow w.heap.size 26 3 u3 (nub (es)).length (svs (nub (es))):=by rw [hW]; exact o0.out.alloc _
    have bW : Below w.heap.size w W:=by rw [hW]; exact ba b0
    by_cases hin : pa ∈ nub (es)
    ·rw [decide_eq_true hin] at lk
     have HR : Hid (W.heap[mb]?=some (Mo SV.val bv (seenM (nub (es++[pa]))))∧W.ownsRow w.heap.size 26 3 u3 (nub (es++[pa])).length (svs (nub (es++[pa])))∧Below w.heap.size w W):=Lib.hid (by rw [nub_in hin]; exact ⟨mW,oW,bW⟩)
     rw [hW] at lk HR
     clear hin mW oW bW hW
     go_wp2
     go_meet
     exact ⟨HR.out.1,Lib.hid HR.out.2.1,HR.out.2.2⟩
    ·rw [decide_eq_false hin] at lk
     have up:=vm_update mW hin
     obtain ⟨M2,hM2⟩ : ∃ M2,M2=Mo SV.val bv (seenM (nub (es)++[pa])):=⟨_,rfl⟩
     rw [← hM2] at up
     have oX:=own_setBlock (o:=M2) oW mW
     have bX:=below_setBlock bW hmb1 M2
     have hX:=setBlock_heap (o':=M2) mW
     have qX : ∀ c u,W.cell? ⟨V0.heap.size,c,none⟩=some u→(setBlock W mb M2).cell? ⟨V0.heap.size,c,none⟩=some u:=fun c u h=>cell_setBlock mW h
     have x0:=qX 0 (.string pa.x) (by rw [hW]; go_simp)
     have x1:=qX 1 (.string pa.y) (by rw [hW]; go_simp)
     have x2:=qX 2 (.string pa.z) (by rw [hW]; go_simp)
     have HM2:=Lib.hid hM2
     have HNO:=Lib.hid (nub_out hin)
     obtain ⟨X,hX0⟩ : ∃ X,X=setBlock W mb M2:=⟨_,rfl⟩
     rw [← hX0] at up oX bX hX x0 x1 x2
     rw [hW] at lk up
     have HOX:=Lib.hid oX
     have HHX:=Lib.hid hX
     have hsx:=bX.size
     have zV : V0.heap.size<X.heap.size:=World.block_lt_of_cell? X _ x0
     clear hin mW oW bW hM2 qX hX0 oX hX hW
     go_wp2_with (at_builtin; refine append_at (w0:=w) w.heap.size rfl (.tmp 26) (.tmp 28) 59 26 _ 3 48 rfl Tryz.underlying59 info_vec rfl (by omega) (by omega) _ (nub (es)).length 1 (svs (nub (es))) [.string pa.x,.string pa.y,.string pa.z] rfl X.heap.size rfl (by omega) rfl (by simp [Value.oneCell']) (HOX.out.alloc _) (box_at _ _ rfl) (ba bX) (by (try simp)<;>omega) (by have:=HL0.out; omega) ?_; intro v1 w1 hown1 hb1 hg1)
     have HR : Hid (w1.heap[mb]?=some (Mo SV.val bv (seenM (nub (es++[pa]))))∧w1.ownsRow w.heap.size 26 3 v1 (nub (es++[pa])).length (svs (nub (es++[pa])))∧Below w.heap.size w w1):=Lib.hid (by
      rw [HNO.out,List.length_append,svs_append]
      refine ⟨?_,hown1,hb1⟩
      have h5:=HHX.out
      rw [HM2.out] at h5
      exact map_grown (HOX.out.alloc _) (mp_alloc h5) hg1)
     clear hown1 hb1 hg1
     go_wp2
     go_meet
     exact ⟨HR.out.1,Lib.hid HR.out.2.1,HR.out.2.2⟩
   obtain ⟨m1,o1,b1⟩:=hcut
   obtain ⟨V1,hWW⟩ : ∃ x,x=wc:=⟨_,rfl⟩
   subst hWW
   have HL1 : Hid ((nub (es++[pa])).length≤3000001):=Lib.hid (by have:=HL0.out; rw [nub_snoc]; unfold nubStep; split<;>(try rw [List.length_append])<;>(try simp only [List.length_singleton])<;>omega)
   go_wp2
   rw [rounds_succ]
   go_upto_block 3 with fail
   go_cut [3] (fun sx2 wx=>wx.heap[mb]?=some (Mo SV.val bv (seenM (nub (es++[pa]++[pb]))))∧Hid (wx.ownsRow w.heap.size 26 3 sx2 (nub (es++[pa]++[pb])).length (svs (nub (es++[pa]++[pb]))))∧Below w.heap.size w wx)
   case first =>
    have hsv:=b1.size
    obtain ⟨W,hW⟩ : ∃ W,W=V1.alloc (.cells #[.string pb.x,.string pb.y,.string pb.z] 26):=⟨_,rfl⟩
    have mW : W.heap[mb]?=some (Mo SV.val bv (seenM (nub (es++[pa])))):=by rw [hW]; exact mp_alloc m1
    have lk:=vm_lookup mW pb
    have oW : W.ownsRow w.heap.size 26 3 u3 (nub (es++[pa])).length (svs (nub (es++[pa]))):=by rw [hW]; exact o1.out.alloc _
    have bW : Below w.heap.size w W:=by rw [hW]; exact ba b1
    by_cases hin : pb ∈ nub (es++[pa])
    ·rw [decide_eq_true hin] at lk
     have HR : Hid (W.heap[mb]?=some (Mo SV.val bv (seenM (nub (es++[pa]++[pb]))))∧W.ownsRow w.heap.size 26 3 u3 (nub (es++[pa]++[pb])).length (svs (nub (es++[pa]++[pb])))∧Below w.heap.size w W):=Lib.hid (by rw [nub_in hin]; exact ⟨mW,oW,bW⟩)
     rw [hW] at lk HR
     clear hin mW oW bW hW
     go_wp2
     go_meet
     exact ⟨HR.out.1,Lib.hid HR.out.2.1,HR.out.2.2⟩
    ·rw [decide_eq_false hin] at lk
     have up:=vm_update mW hin
     obtain ⟨M2,hM2⟩ : ∃ M2,M2=Mo SV.val bv (seenM (nub (es++[pa])++[pb])):=⟨_,rfl⟩
     rw [← hM2] at up
     have oX:=own_setBlock (o:=M2) oW mW
     have bX:=below_setBlock bW hmb1 M2
     have hX:=setBlock_heap (o':=M2) mW
     have qX : ∀ c u,W.cell? ⟨V1.heap.size,c,none⟩=some u→(setBlock W mb M2).cell? ⟨V1.heap.size,c,none⟩=some u:=fun c u h=>cell_setBlock mW h
     have x0:=qX 0 (.string pb.x) (by rw [hW]; go_simp)
     have x1:=qX 1 (.string pb.y) (by rw [hW]; go_simp)
     have x2:=qX 2 (.string pb.z) (by rw [hW]; go_simp)
     have HM2:=Lib.hid hM2
     have HNO:=Lib.hid (nub_out hin)
     obtain ⟨X,hX0⟩ : ∃ X,X=setBlock W mb M2:=⟨_,rfl⟩
     rw [← hX0] at up oX bX hX x0 x1 x2
     rw [hW] at lk up
     have HOX:=Lib.hid oX
     have HHX:=Lib.hid hX
     have hsx:=bX.size
     have zV : V1.heap.size<X.heap.size:=World.block_lt_of_cell? X _ x0
     clear hin mW oW bW hM2 qX hX0 oX hX hW
     go_wp2_with (at_builtin; refine append_at (w0:=w) w.heap.size rfl (.tmp 26) (.tmp 28) 59 26 _ 3 48 rfl Tryz.underlying59 info_vec rfl (by omega) (by omega) _ (nub (es++[pa])).length 1 (svs (nub (es++[pa]))) [.string pb.x,.string pb.y,.string pb.z] rfl X.heap.size rfl (by omega) rfl (by simp [Value.oneCell']) (HOX.out.alloc _) (box_at _ _ rfl) (ba bX) (by (try simp)<;>omega) (by have:=HL1.out; omega) ?_; intro v1 w1 hown1 hb1 hg1)
     have HR : Hid (w1.heap[mb]?=some (Mo SV.val bv (seenM (nub (es++[pa]++[pb]))))∧w1.ownsRow w.heap.size 26 3 v1 (nub (es++[pa]++[pb])).length (svs (nub (es++[pa]++[pb])))∧Below w.heap.size w w1):=Lib.hid (by
      rw [HNO.out,List.length_append,svs_append]
      refine ⟨?_,hown1,hb1⟩
      have h5:=HHX.out
      rw [HM2.out] at h5
      exact map_grown (HOX.out.alloc _) (mp_alloc h5) hg1)
     clear hown1 hb1 hg1
     go_wp2
     go_meet
     exact ⟨HR.out.1,Lib.hid HR.out.2.1,HR.out.2.2⟩
   obtain ⟨m2,o2,b2⟩:=hcut
   obtain ⟨V2,hWW⟩ : ∃ x,x=wc:=⟨_,rfl⟩
   subst hWW
   have HL2 : Hid ((nub (es++[pa]++[pb])).length≤3000002):=Lib.hid (by have:=HL1.out; rw [nub_snoc]; unfold nubStep; split<;>(try rw [List.length_append])<;>(try simp only [List.length_singleton])<;>omega)
   go_wp2
   rw [rounds_succ]
   go_upto_block 3 with fail
   go_cut [3] (fun sx3 wx=>wx.heap[mb]?=some (Mo SV.val bv (seenM (nub (es++[pa]++[pb]++[pc]))))∧Hid (wx.ownsRow w.heap.size 26 3 sx3 (nub (es++[pa]++[pb]++[pc])).length (svs (nub (es++[pa]++[pb]++[pc]))))∧Below w.heap.size w wx)
   case first =>
    have hsv:=b2.size
    obtain ⟨W,hW⟩ : ∃ W,W=V2.alloc (.cells #[.string pc.x,.string pc.y,.string pc.z] 26):=⟨_,rfl⟩
    have mW : W.heap[mb]?=some (Mo SV.val bv (seenM (nub (es++[pa]++[pb])))):=by rw [hW]; exact mp_alloc m2
    have lk:=vm_lookup mW pc
    have oW : W.ownsRow w.heap.size 26 3 u3 (nub (es++[pa]++[pb])).length (svs (nub (es++[pa]++[pb]))):=by rw [hW]; exact o2.out.alloc _
    have bW : Below w.heap.size w W:=by rw [hW]; exact ba b2
    by_cases hin : pc ∈ nub (es++[pa]++[pb])
    ·rw [decide_eq_true hin] at lk
     have HR : Hid (W.heap[mb]?=some (Mo SV.val bv (seenM (nub (es++[pa]++[pb]++[pc]))))∧W.ownsRow w.heap.size 26 3 u3 (nub (es++[pa]++[pb]++[pc])).length (svs (nub (es++[pa]++[pb]++[pc])))∧Below w.heap.size w W):=Lib.hid (by rw [nub_in hin]; exact ⟨mW,oW,bW⟩)
     rw [hW] at lk HR
     clear hin mW oW bW hW
     go_wp2
     go_meet
     exact ⟨HR.out.1,Lib.hid HR.out.2.1,HR.out.2.2⟩
    ·rw [decide_eq_false hin] at lk
     have up:=vm_update mW hin
     obtain ⟨M2,hM2⟩ : ∃ M2,M2=Mo SV.val bv (seenM (nub (es++[pa]++[pb])++[pc])):=⟨_,rfl⟩
     rw [← hM2] at up
     have oX:=own_setBlock (o:=M2) oW mW
     have bX:=below_setBlock bW hmb1 M2
     have hX:=setBlock_heap (o':=M2) mW
     have qX : ∀ c u,W.cell? ⟨V2.heap.size,c,none⟩=some u→(setBlock W mb M2).cell? ⟨V2.heap.size,c,none⟩=some u:=fun c u h=>cell_setBlock mW h
     have x0:=qX 0 (.string pc.x) (by rw [hW]; go_simp)
     have x1:=qX 1 (.string pc.y) (by rw [hW]; go_simp)
     have x2:=qX 2 (.string pc.z) (by rw [hW]; go_simp)
     have HM2:=Lib.hid hM2
     have HNO:=Lib.hid (nub_out hin)
     obtain ⟨X,hX0⟩ : ∃ X,X=setBlock W mb M2:=⟨_,rfl⟩
     rw [← hX0] at up oX bX hX x0 x1 x2
     rw [hW] at lk up
     have HOX:=Lib.hid oX
     have HHX:=Lib.hid hX
     have hsx:=bX.size
     have zV : V2.heap.size<X.heap.size:=World.block_lt_of_cell? X _ x0
     clear hin mW oW bW hM2 qX hX0 oX hX hW
     go_wp2_with (at_builtin; refine append_at (w0:=w) w.heap.size rfl (.tmp 26) (.tmp 28) 59 26 _ 3 48 rfl Tryz.underlying59 info_vec rfl (by omega) (by omega) _ (nub (es++[pa]++[pb])).length 1 (svs (nub (es++[pa]++[pb]))) [.string pc.x,.string pc.y,.string pc.z] rfl X.heap.size rfl (by omega) rfl (by simp [Value.oneCell']) (HOX.out.alloc _) (box_at _ _ rfl) (ba bX) (by (try simp)<;>omega) (by have:=HL2.out; omega) ?_; intro v1 w1 hown1 hb1 hg1)
     have HR : Hid (w1.heap[mb]?=some (Mo SV.val bv (seenM (nub (es++[pa]++[pb]++[pc]))))∧w1.ownsRow w.heap.size 26 3 v1 (nub (es++[pa]++[pb]++[pc])).length (svs (nub (es++[pa]++[pb]++[pc])))∧Below w.heap.size w w1):=Lib.hid (by
      rw [HNO.out,List.length_append,svs_append]
      refine ⟨?_,hown1,hb1⟩
      have h5:=HHX.out
      rw [HM2.out] at h5
      exact map_grown (HOX.out.alloc _) (mp_alloc h5) hg1)
     clear hown1 hb1 hg1
     go_wp2
     go_meet
     exact ⟨HR.out.1,Lib.hid HR.out.2.1,HR.out.2.2⟩
   obtain ⟨m3,o3,b3⟩:=hcut
   obtain ⟨V3,hWW⟩ : ∃ x,x=wc:=⟨_,rfl⟩
   subst hWW
   have HL3 : Hid ((nub (es++[pa]++[pb]++[pc])).length≤3000003):=Lib.hid (by have:=HL2.out; rw [nub_snoc]; unfold nubStep; split<;>(try rw [List.length_append])<;>(try simp only [List.length_singleton])<;>omega)
   go_wp2
   rw [rounds_succ]
   go_wp2
   go_roundw
   case rel=>exact ⟨i+1,by omega,by go_num,by rw [HE.out]; exact m3,by rw [HE.out]; exact o3,b3⟩
   case measure=>simp [intOf]; omega
  ·obtain rfl : i=n:=by omega
   rw [HTE.out] at hown
   have HV : Hid (Vs wr u3 (pointsL l)):=Lib.hid (Vs.own hown.out)
   clear hown
   go_wp2
   go_ret
   exact ⟨_,rfl,HV.out,hb⟩
end Go.Proofs.YtopfedbhkfdjkaaGreatDoor

namespace Go.Proofs.YtopfedbhkfdjkaaGreatDoor
open Go Go.RowKit
set_option maxHeartbeats 1000000 in
theorem mPoints_ok (v : Value) (l : List TV) (w : World) (hB : Bw w) (hv : Ts w v l) (hs : tle l 40000000) (hz : chkC l=0) :
  Calls Tryz.prog 38 #[v] w (Ret fun r w'=>(∃ u,r=.tuple #[u,.int .i64 0]∧Vs w' u (pointsL l))∧Below w.heap.size w w'):=by
 have H:=Lib.hid (fun w hB hv=>check_walk v l w hB hv hs)
 have hp:=chkC_zero hz
 have H2:=Lib.hid (fun w hB hv=>points_walk v l w hB hv (by omega))
 rw [hz] at H
 obtain ⟨A,cap,rfl,hn,hc,hcell⟩:=hv.open
 clear hcell hn hc hs hz hp
 go_enter Tryz.func38,Tryz.ntmps38
 go_wp2_with fail
 refine (H.out _ (hB.below bel) (hv.below bel)).mono ?_
 rintro e w1 ⟨rfl,g1⟩
 have B1:=bn (w:=w) bel g1
 clear g1
 go_wp2_with fail
 refine (H2.out _ (hB.below bel) (hv.below bel)).mono ?_
 rintro e w2 ⟨u,rfl,hu,g2⟩
 have B2:=bn (w:=w) bel g2
 clear g2
 obtain ⟨A2,cap2,rfl, -, -, -⟩:=hu.open
 go_wp2
 go_ret2
 exact ⟨_,rfl,⟨_,rfl,hu⟩,bel⟩
end Go.Proofs.YtopfedbhkfdjkaaGreatDoor

namespace Go.Proofs.YtopfedbhkfdjkaaGreatDoor
open Go Go.RowKit
theorem points_txt (L : List (Tr V3)) : pointsL (L.map txt)=tvs (pointsL L):=pointsL_map (f:=txv) txv_apart L
theorem mem_points {L : List (Tr V3)} {k : Nat} (h : ∀ t ∈ L,t.a.le k∧t.b.le k∧t.c.le k) : ∀ p ∈ pointsL L,p.le k:=by
 intro p hp
 unfold pointsL at hp
 rw [mem_nub] at hp
 unfold tpts at hp
 obtain ⟨t,ht,hp⟩:=List.mem_flatMap.1 hp
 simp only [Tr.pts,List.mem_cons,List.not_mem_nil,or_false] at hp
 obtain ⟨h1,h2,h3⟩:=h t ht
 rcases hp with rfl | rfl | rfl
 ·exact h1
 ·exact h2
 ·exact h3
end Go.Proofs.YtopfedbhkfdjkaaGreatDoor

namespace Go.Proofs.YtopfedbhkfdjkaaGreatDoor
open Go Go.RowKit
section
variable {α β : Type}
theorem mem_tpts_iff {l : List (Tr α)} {y : α} : y ∈ tpts l↔∃ t ∈ l,y=t.a∨y=t.b∨y=t.c:=by
 unfold tpts
 rw [List.mem_flatMap]
 constructor
 ·rintro ⟨t,ht,h⟩
  simp only [Tr.pts,List.mem_cons,List.not_mem_nil,or_false] at h
  exact ⟨t,ht,h⟩
 ·rintro ⟨t,ht,h⟩
  exact ⟨t,ht,by simp only [Tr.pts,List.mem_cons,List.not_mem_nil,or_false]; exact h⟩
variable [DecidableEq α] [DecidableEq β]
theorem mem_pointsL {l : List (Tr α)} {y : α} : y ∈ pointsL l↔y ∈ tpts l:=mem_nub _ _
omit [DecidableEq α] in
end
end Go.Proofs.YtopfedbhkfdjkaaGreatDoor

namespace Go.Proofs.YtopfedbhkfdjkaaGreatDoor
open Go Go.RowKit
def Qn (w : World) (z : Value) (r : Rat) : Prop:=∃ v d,z=.agg #[.bool (decide (r.num<0)),v,d]∧Num w v r.num.natAbs∧Num w d r.den
theorem Qn.below {w w1 : World} {z : Value} {r : Rat} (h : Qn w z r) (hb : Below w.heap.size w w1) : Qn w1 z r:=by
 obtain ⟨x,d,hv,hx,hd⟩:=h
 exact ⟨x,d,hv,hx.below hb,hd.below hb⟩
theorem Qn.open {w : World} {z : Value} {r : Rat} (h : Qn w z r) : ∃ A1 c1 A2 c2,z=.agg #[.bool (decide (r.num<0)),.slice A1 (wds r.num.natAbs).length c1,.slice A2 (wds r.den).length c2]∧Num w (.slice A1 (wds r.num.natAbs).length c1) r.num.natAbs∧Num w (.slice A2 (wds r.den).length c2) r.den:=by
 obtain ⟨v,d,rfl,hv,hd⟩:=h
 obtain ⟨A1,c1,rfl,_⟩:=hv.open
 obtain ⟨A2,c2,rfl,_⟩:=hd.open
 exact ⟨A1,c1,A2,c2,rfl,hv,hd⟩
end Go.Proofs.YtopfedbhkfdjkaaGreatDoor

namespace Go.Proofs.YtopfedbhkfdjkaaGreatDoor
open Go Go.RowKit
def Vn (w : World) (z : Value) (v : V3) : Prop:=∃ n1 d1 n2 d2 n3 d3,z=.agg #[.bool (decide (v.x.num<0)),n1,d1,.bool (decide (v.y.num<0)),n2,d2,.bool (decide (v.z.num<0)),n3,d3] ∧
 Qn w (.agg #[.bool (decide (v.x.num<0)),n1,d1]) v.x∧Qn w (.agg #[.bool (decide (v.y.num<0)),n2,d2]) v.y∧Qn w (.agg #[.bool (decide (v.z.num<0)),n3,d3]) v.z
theorem Vn.below {w w1 : World} {z : Value} {v : V3} (h : Vn w z v) (hb : Below w.heap.size w w1) : Vn w1 z v:=by
 obtain ⟨n1,d1,n2,d2,n3,d3,hz,a,b,c⟩:=h
 exact ⟨n1,d1,n2,d2,n3,d3,hz,a.below hb,b.below hb,c.below hb⟩
theorem Qn.parts {w : World} {b : Bool} {n d : Value} {r : Rat} (h : Qn w (.agg #[.bool b,n,d]) r) : ∃ A a B c,n=.slice A (wds r.num.natAbs).length a∧d=.slice B (wds r.den).length c:=by
 obtain ⟨A,a,B,c,hz,_⟩:=h.open
 simp only [Value.agg.injEq,Array.mk.injEq,List.cons.injEq] at hz
 exact ⟨A,a,B,c,hz.2.1,hz.2.2.1⟩
theorem Vn.open {w : World} {z : Value} {v : V3} (h : Vn w z v) : ∃ A1 a1 B1 b1 A2 a2 B2 b2 A3 a3 B3 b3,
  z=.agg #[.bool (decide (v.x.num<0)),.slice A1 (wds v.x.num.natAbs).length a1,.slice B1 (wds v.x.den).length b1,.bool (decide (v.y.num<0)),.slice A2 (wds v.y.num.natAbs).length a2,.slice B2 (wds v.y.den).length b2,.bool (decide (v.z.num<0)),.slice A3 (wds v.z.num.natAbs).length a3,.slice B3 (wds v.z.den).length b3] ∧
  Qn w (.agg #[.bool (decide (v.x.num<0)),.slice A1 (wds v.x.num.natAbs).length a1,.slice B1 (wds v.x.den).length b1]) v.x∧Qn w (.agg #[.bool (decide (v.y.num<0)),.slice A2 (wds v.y.num.natAbs).length a2,.slice B2 (wds v.y.den).length b2]) v.y∧Qn w (.agg #[.bool (decide (v.z.num<0)),.slice A3 (wds v.z.num.natAbs).length a3,.slice B3 (wds v.z.den).length b3]) v.z:=by
 obtain ⟨n1,d1,n2,d2,n3,d3,rfl,a,b,c⟩:=h
 obtain ⟨A1,a1,B1,b1,rfl,rfl⟩:=a.parts
 obtain ⟨A2,a2,B2,b2,rfl,rfl⟩:=b.parts
 obtain ⟨A3,a3,B3,b3,rfl,rfl⟩:=c.parts
 exact ⟨A1,a1,B1,b1,A2,a2,B2,b2,A3,a3,B3,b3,rfl,a,b,c⟩
section
variable {P : Program} {ops : Array Oper} {o : Oper} {a : Act} {K : Act→World→Prop} {Q : Exit→Act→World→Prop} {E : Prop}
end
end Go.Proofs.YtopfedbhkfdjkaaGreatDoor

namespace Go.Proofs.YtopfedbhkfdjkaaGreatDoor
open Go Go.RowKit
def VB (b : Bool) (v : V3) (W w : World) (e : Ending) : Prop:=∃ z,e=.returned (.tuple #[z,.bool b])∧Vn w z v∧Below W.heap.size W w
end Go.Proofs.YtopfedbhkfdjkaaGreatDoor

namespace Go.Proofs.YtopfedbhkfdjkaaGreatDoor
section
variable {p q : Pl} {f : V3→V3}
end
theorem cut_high {p : Pl} : ∀ {l : List (Tr V3)},allP (fun q=>0<p.height q) l→dnL p l=[]∧upL p l=l∧seL p l=[]
 | [],_=>⟨rfl,rfl,rfl⟩
 | t :: l,h=>by
  obtain ⟨h1,h2,h3⟩:=cut_high (l:=l) (fun u hu=>h u (by simp [hu]))
  obtain ⟨ha,hb,hc⟩:=h t (by simp)
  have q : ∀ {a : V3},0<p.height a→upP p a=true:=fun h=>decide_eq_true h
  have e1 : dnT p t=[]:=by unfold dnT; rw [q ha,q hb,q hc]
  have e2 : upT p t=[t]:=by unfold upT; rw [q ha,q hb,q hc]
  have e3 : seT p t=[]:=by unfold seT; rw [q ha,q hb,q hc]
  refine ⟨?_, ?_, ?_⟩
  ·show dnT p t++dnL p l=_; rw [h1,e1]; rfl
  ·show upT p t++upL p l=_; rw [h2,e2]; rfl
  ·show seT p t++seL p l=_; rw [h3,e3]; rfl
theorem parts_high {p : Pl} {l : List (Tr V3)} (h : allP (fun q=>0<p.height q) l) : underL p l=[]∧overL p l=l:=by
 obtain ⟨h1,h2,h3⟩:=cut_high h
 unfold underL overL
 rw [h1,h2,h3]
 exact ⟨rfl,List.append_nil _⟩
theorem under_again (p : Pl) (l : List (Tr V3)) : underL p (underL p l)=underL p l∧overL p (underL p l)=[]:=parts_low (cut_sides p l).1
end Go.Proofs.YtopfedbhkfdjkaaGreatDoor

/- clip: Between and Slices on numbers; law of chapter 13: awake is true. -/
namespace Go.Proofs.YtopfedbhkfdjkaaGreatDoor
open Go Go.RowKit
theorem leT_mono {L : List (Tr V3)} {k m : Nat} (h : leT L k) (hm : k≤m) : leT L m:=fun t ht=>⟨(h t ht).1.mono hm,(h t ht).2.1.mono hm,(h t ht).2.2.mono hm⟩
theorem under_ck {p : Pl} {L : List (Tr V3)} (hk : chkC (L.map txt)=0) (hS : (underL p L).length≤512) : chkC ((underL p L).map txt)=0 :=
 chk_ok hS (under_closed (by rw [← open_txt]; exact (chkC_zero hk).2.2) p)
theorem over_ck {p : Pl} {L : List (Tr V3)} (hk : chkC (L.map txt)=0) (hS : (overL p L).length≤512) : chkC ((overL p L).map txt)=0 :=
 chk_ok hS (over_closed (by rw [← open_txt]; exact (chkC_zero hk).2.2) p)
theorem cBetween_ok {n : V3} {a b : Rat} {L : List (Tr V3)} (h0 : n≠V3.zero) (hn : n.le 500) (ha : rz a≤500) (hb : rz b≤500) (hL : leT L 500) (hk : chkC (L.map txt)=0) (hl : L.length≤50) (hab : a<b) (v : Value) (w : World) (hB : Bw w) (hv : Ts w v (L.map txt)) :
  Calls Tryz.prog 23 #[v,VV n,.string (rtx a),.string (rtx b)] w (SolR ((overL ⟨n,a⟩ (underL ⟨n,b⟩ L)).map txt) w):=by
 obtain ⟨A,cap,rfl, -, -, -⟩:=hv.open
 have hll:=(parts_len ⟨n,b⟩ L).1
 have hll2:=(parts_len ⟨n,a⟩ (underL ⟨n,b⟩ L)).2
 have hL1 : leT L 100000:=leT_mono hL (by omega)
 have hp : ∀ c,rz c≤500→(⟨n,c⟩ : Pl).le 100000:=fun c hc=>⟨hn.mono (by omega),by show rz c≤_; omega⟩
 have hL2 : leT (underL ⟨n,b⟩ L) 100000:=(parts_le (k:=500) (m:=500) (p:=⟨n,b⟩) ⟨hn,hb⟩ hL (by omega)).2.2.2.1
 have hk2:=under_ck (p:=⟨n,b⟩) hk (by omega)
 have hc : rcmp a b = -1:=by unfold rcmp; rw [if_pos hab]
 rw [VV_eq]
 refine cBetween_at A _ cap (L.map txt) _ _ _ _ _ w hB hv ((underL ⟨n,b⟩ L).map txt) _ (fun w hB hv=>ck_ok h0 (hp a ha) hL1 hk _ w hB hv) (fun w hB hv=>ck_ok h0 (hp b hb) hL1 hk _ w hB hv) ?_ ?_ ?_
 ·intro w hB
  have:=rCompare_walk a b (by omega) (by omega) w hB
  rw [hc] at this
  exact this
 ·intro w hB hv
  exact cBelow_ok h0 (hp b hb) hL1 hk _ w hB hv (by omega)
 ·intro v w hB hv
  exact cAbove_ok h0 (hp a ha) hL2 hk2 _ w hB hv (by omega)
theorem cplane_ok {p : Pl} (h0 : p.n≠V3.zero) (hp : p.le 100000) (w : World) (hB : Bw w) :
  Calls Tryz.prog 60 #[.agg #[.string (rtx p.n.x),.string (rtx p.n.y),.string (rtx p.n.z),.string (rtx p.c)]] w fun e w'=>e=.returned (.int .i64 0)∧Below w.heap.size w w':=by
 have hn:=txv_le hp.1
 have hc:=rtx_size p.c
 have hc2:=hp.2
 have:=cplane_walk (txv p.n) (rtx p.c) ⟨by have:=hn.1; omega,by have:=hn.2.1; omega,by have:=hn.2.2; omega⟩ (by omega) w hB
 rw [plS_txt h0] at this
 exact this
noncomputable def rOf (c : ByteArray) : Rat:=Classical.epsilon fun q=>rtx q=c
theorem rOf_rtx (q : Rat) : rOf (rtx q)=q:=rtx_inj (Classical.epsilon_spec (p:=fun x=>rtx x=rtx q) ⟨q,rfl⟩)
theorem cSlices_ok {n : V3} {L : List (Tr V3)} (h0 : n≠V3.zero) (hn : n.le 100000) (hL : leT L 100000) (hk : chkC (L.map txt)=0) (cs : List Rat) (hc : ∀ c ∈ cs,rz c≤100000) (hm : cs.length≤32) (v u : Value) (w : World) (hB : Bw w) (hv : Ts w v (L.map txt)) (hu : Rs w u (cs.map rtx)) :
  Calls Tryz.prog 25 #[v,VV n,u] w (SlR (cs.map fun c=>(seL ⟨n,c⟩ L).map txe) w):=by
 obtain ⟨A,cap,rfl, -, -, -⟩:=hv.open
 obtain ⟨_,A2,cap2,rfl,hq2,hq3,hq4⟩:=hu
 have hu : Rs w (.slice A2 (cs.map rtx).length cap2) (cs.map rtx):=⟨‹_›,A2,cap2,rfl,hq2,hq3,hq4⟩
 have hl:=(chkC_zero hk).1
 have hz : rtx 0=⟨#[48]⟩:=rtx_zero
 have hmem : ∀ c ∈ (⟨#[48]⟩ :: cs.map rtx : List ByteArray),∃ q,c=rtx q∧rz q≤100000:=by
  intro c hcm
  rcases List.mem_cons.1 hcm with rfl | hcm
  ·exact ⟨0,hz.symm,by rw [rz_zero]; omega⟩
  ·obtain ⟨q,hq,rfl⟩:=List.mem_map.1 hcm
   exact ⟨q,rfl,hc q hq⟩
 have e : (cs.map fun c=>(seL ⟨n,c⟩ L).map txe)=(cs.map rtx).map fun c=>(seL ⟨n,rOf c⟩ L).map txe:=by
  rw [List.map_map]
  refine List.map_congr_left fun c _=>?_
  show _=(seL ⟨n,rOf (rtx c)⟩ L).map txe
  rw [rOf_rtx]
 rw [e,VV_eq]
 refine cSlices_at A A2 _ cap _ cap2 (L.map txt) (cs.map rtx) _ _ _ w hB hv hu (by rw [List.length_map]; exact hm) (fun w hB hv=>?_) (fun c hcm w hB=>?_) (fun c=>(dnL ⟨n,rOf c⟩ L).map txt) (fun c=>(upL ⟨n,rOf c⟩ L).map txt) _ (fun c hcm w hB hv=>?_)
 ·have:=check_walk _ (L.map txt) w hB hv (tle_txt hL (by omega))
  rw [hk] at this
  exact this
 ·obtain ⟨q,rfl,hq⟩:=hmem c hcm
  exact cplane_ok (p:=⟨n,q⟩) h0 ⟨hn,hq⟩ w hB
 ·obtain ⟨q,hq,rfl⟩:=List.mem_map.1 hcm
  rw [rOf_rtx]
  rw [List.length_map] at hv ⊢
  exact (csplit_walk L ⟨n,q⟩ h0 ⟨hn,hc q hq⟩ hL (by rw [List.length_map] at hl; omega) A cap w hB hv).mono fun _ _ h=>h.texts
/-! ### The example of the chapter -/
def nz : V3:=⟨0,0,1⟩
def nx : V3:=⟨1,0,0⟩
def pz1 : Pl:=⟨nz,1 / 2⟩
def pz2 : Pl:=⟨nz,1⟩
theorem rtx_half : rtx (1 / 2)=⟨#[49,47,50]⟩:=by decide +kernel
theorem nz_ne : nz≠V3.zero:=by unfold nz V3.zero; decide
theorem nx_ne : nx≠V3.zero:=by unfold nx V3.zero; decide
theorem nz_le : nz.le 1:=by unfold V3.le; decide +kernel
theorem nx_le : nx.le 1:=by unfold V3.le; decide +kernel
theorem half_le : rz (1 / 2)≤1:=by decide +kernel
theorem one_le : rz 1≤1:=by decide +kernel
theorem len_under : (underL pz1 box0).length=20:=by decide +kernel
theorem len_over : (overL pz1 box0).length=20:=by decide +kernel
theorem len_sec : (seL pz1 box0).length=8:=by decide +kernel
theorem len_mid : 0<(overL ⟨nx,1 / 2⟩ (underL ⟨nx,1⟩ box0)).length:=by decide +kernel
theorem len_slc : (seL ⟨nx,1⟩ box0).length=8:=by decide +kernel
theorem top_low : allP (fun q=>pz2.height q≤0) box0:=by unfold allP; decide +kernel
theorem PV_pz1 : PV pz1=.agg #[.string ⟨#[48]⟩,.string ⟨#[48]⟩,.string ⟨#[49]⟩,.string ⟨#[49,47,50]⟩]:=by
 rw [PV_eq]; simp only [pz1,nz,rtx_zero,rtx_one,rtx_half]
theorem PV_pz2 : PV pz2=.agg #[.string ⟨#[48]⟩,.string ⟨#[48]⟩,.string ⟨#[49]⟩,.string ⟨#[49]⟩]:=by
 rw [PV_eq]; simp only [pz2,nz,rtx_zero,rtx_one]
theorem VV_nx : VV nx=.agg #[.string ⟨#[49]⟩,.string ⟨#[48]⟩,.string ⟨#[48]⟩]:=by
 rw [VV_eq]; simp only [nx,rtx_zero,rtx_one]
theorem awake13_walk (w : World) (hB : Bw w) :
  Calls Tryz.prog 10 #[] w fun e w'=>e=.returned (.bool true)∧Below w.heap.size w w':=by
 have hb : chkC (box0.map txt)=0:=chk_ok (by rw [box0_len]; omega) box0_closed
 have hL : leT box0 1:=box0_le
 have hL1 : leT box0 100000:=leT_mono hL (by omega)
 have h1 : pz1.n≠V3.zero:=nz_ne
 have h2 : pz2.n≠V3.zero:=nz_ne
 have hp1 : pz1.le 1:=⟨nz_le,half_le⟩
 have hp2 : pz2.le 1:=⟨nz_le,one_le⟩
 have hq1 : pz1.le 100000:=⟨hp1.1.mono (by omega),Nat.le_trans hp1.2 (by omega)⟩
 have hq2 : pz2.le 100000:=⟨hp2.1.mono (by omega),Nat.le_trans hp2.2 (by omega)⟩
 have hpl:=parts_le (p:=pz1) (n:=100000) hp1 hL (by omega)
 have hck : ∀ L,leT L 100000→chkC (L.map txt)=0→∀ v w,Bw w→Ts w v (L.map txt)→Calls Tryz.prog 29 #[v] w fun e w'=>e=.returned (.int .i64 0)∧Below w.heap.size w w':=by
  intro L hl hk v w hB hv
  have:=check_walk v (L.map txt) w hB hv (tle_txt hl (by omega))
  rw [hk] at this
  exact this
 refine awake13_at (box0.map txt) ((underL pz1 box0).map txt) ((overL pz1 box0).map txt) ((overL ⟨nx,1 / 2⟩ (underL ⟨nx,1⟩ box0)).map txt) ((seL pz1 box0).map txe) ((seL ⟨nx,1⟩ box0).map txe) w hB (by rw [List.length_map,box0_len]) (by rw [List.length_map,len_under]; omega) (by rw [List.length_map,len_over]; omega) ?_ (by rw [List.length_map,len_sec]) (by rw [List.length_map,len_slc]) ?_ ?_ ?_ ?_ ?_ ?_ ?_ ?_ ?_ ?_ ?_
 rotate_left
 ·intro w hB
  have:=mbox_ok lo0 hi0 lo0_le hi0_le lo0_lt w hB
  rw [VV_lo0,VV_hi0] at this
  exact this
 ·intro v w hB hv
  have:=cBelow_ok h1 hq1 hL1 hb v w hB hv (by rw [len_under]; omega)
  rwa [PV_pz1] at this
 ·intro v w hB hv
  have:=cAbove_ok h1 hq1 hL1 hb v w hB hv (by rw [len_over]; omega)
  rwa [PV_pz1] at this
 ·intro v w hB hv
  have:=cSection_ok h1 hq1 hL1 hb v w hB hv
  rwa [PV_pz1] at this
 ·intro v w hB hv
  have e:=(parts_low top_low).1
  have:=cBelow_ok h2 hq2 hL1 hb v w hB hv (by rw [e,box0_len]; omega)
  rwa [PV_pz2,e] at this
 ·intro v w hB hv
  have e:=(cut_low top_low).2.2
  have:=cSection_ok h2 hq2 hL1 hb v w hB hv
  rwa [PV_pz2,e] at this
 ·intro v w hB hv
  have:=cBetween_ok (a:=1 / 2) (b:=1) nx_ne (nx_le.mono (by omega)) (Nat.le_trans half_le (by omega)) (Nat.le_trans one_le (by omega)) (leT_mono hL (by omega)) hb (by rw [box0_len]; omega) (by decide +kernel) v w hB hv
  rw [VV_nx,rtx_half,rtx_one] at this
  exact this
 ·intro v u w hB hv hu
  have:=cSlices_ok (n:=nx) nx_ne (nx_le.mono (by omega)) hL1 hb [1] (fun c hc=>by simp at hc; subst hc; exact Nat.le_trans one_le (by omega)) (by simp) v u w hB hv (by simpa [rtx_one] using hu)
  rw [VV_nx] at this
  exact this
 ·exact hck _ hpl.2.2.2.1 (under_ck hb (by rw [len_under]; omega))
 ·exact hck _ hpl.2.2.2.2 (over_ck hb (by rw [len_over]; omega))
 ·intro v1 v2 w h1 h2
  exact refSame_walk v1 v2 _ w h1 h2
 ·rw [List.length_map]; exact len_mid
end Go.Proofs.YtopfedbhkfdjkaaGreatDoor

/- laws of chapter 13: small inputs, and what clip answers on them. -/
namespace Go.Proofs.YtopfedbhkfdjkaaGreatDoor
open Go Go.RowKit
theorem few13_parts {l : List TV} {s : SV} {c : ByteArray} (h : few13 l s c=true) : fewT l=true∧isFew s=true∧c.size≤20:=by
 unfold few13 at h
 simp only [Bool.and_eq_true,decide_eq_true_eq] at h
 exact h
theorem few13_len {l : List TV} {s : SV} {c : ByteArray} (h : few13 l s c=true) : l.length≤513:=few_len (few13_parts h).1
theorem clone13 (l : List TV) (hm : l.length≤513) : ∀ (A : Option Addr) (cap : Nat) (w : World),Ts w (.slice A l.length cap) l →
  Calls Tryz.prog 13 #[.slice A l.length cap] w (Ret fun r w'=>(∃ A c,r=.slice A l.length c∧Ts w' (.slice A l.length c) l)∧Below w.heap.size w w') :=
 fun A cap w hv=>clone_sl _ l _ rfl (by omega) w hv
theorem few_short {l : List TV} (h : fewT l=true) (hn : l.length≤512) : l.length≤40:=by
 unfold fewT fewLen at h
 simp only [Bool.and_eq_true,Bool.or_eq_true,decide_eq_true_eq] at h
 omega
theorem in13 {l : List TV} {s : SV} {c : ByteArray} (h : few13 l s c=true) : (∃ (L : List (Tr V3)) (p : Pl),l=L.map txt∧s=txv p.n∧c=rtx p.c∧p.n≠V3.zero∧p.le 20∧leT L 20∧chkC (L.map txt)=0∧L.length≤40)∨chkS l s c≠0:=by
 obtain ⟨h1,h2,h3⟩:=few13_parts h
 by_cases hz : chkS l s c=0
 ·unfold chkS at hz
  by_cases hk : chkC l=0
  ·rw [if_pos hk] at hz
   obtain ⟨k1,k2,k3⟩:=chkC_zero hk
   obtain ⟨L,rfl⟩:=solid_of k2
   rcases plS_cases s c with hp | ⟨p,rfl,rfl,h0,_⟩
   ·rw [hp] at hz; cases hz
   ·refine .inl ⟨L,p,rfl,rfl,rfl,h0,⟨few_le h2,rz_few h3⟩,few_leT h1,hk, ?_⟩
    have:=few_short h1 k1
    rwa [List.length_map] at this
  ·rw [if_neg hk] at hz
   exact absurd hz hk
 ·exact .inr hz
theorem bad13 {l : List TV} {s : SV} {c : ByteArray} (h : few13 l s c=true) (hz : chkS l s c≠0) :
  (∀ v w,Bw w→Ts w v l→Calls Tryz.prog 12 #[v,.agg #[.string s.x,.string s.y,.string s.z,.string c]] w fun e w'=>e=.returned (.tuple #[.slice none 0 0,.int .i64 (chkS l s c)])∧Below w.heap.size w w') ∧
  (∀ v w,Bw w→Ts w v l→Calls Tryz.prog 15 #[v,.agg #[.string s.x,.string s.y,.string s.z,.string c]] w fun e w'=>e=.returned (.tuple #[.slice none 0 0,.int .i64 (chkS l s c)])∧Below w.heap.size w w') ∧
  (∀ v w,Bw w→Ts w v l→Calls Tryz.prog 17 #[v,.agg #[.string s.x,.string s.y,.string s.z,.string c]] w fun e w'=>e=.returned (.tuple #[.slice none 0 0,.int .i64 (chkS l s c)])∧Below w.heap.size w w'):=by
 obtain ⟨h1,h2,h3⟩:=few13_parts h
 have hs:=few_sv h2
 have hs2 : s.le 1000000:=by
  simp only [isFew,Bool.and_eq_true,decide_eq_true_eq] at h2
  exact ⟨by have:=h2.1.1; omega,by have:=h2.1.2; omega,by have:=h2.2; omega⟩
 have hk : ∀ v w,Bw w→Ts w v l→_:=fun v w hB hv=>ccheck_walk v l s c w hB hv (few_tle h1) hs2 (by omega)
 have hb : (chkS l s c != 0)=true:=by simpa using hz
 refine ⟨fun v w hB hv=>?_,fun v w hB hv=>?_,fun v w hB hv=>?_⟩
 ·obtain ⟨A,cap,rfl, -, -, -⟩:=hv.open
  exact cBelow_bad A _ cap l _ _ _ _ w hB hv _ hb (fun w hB hv=>hk _ w hB hv)
 ·obtain ⟨A,cap,rfl, -, -, -⟩:=hv.open
  exact cAbove_bad A _ cap l _ _ _ _ w hB hv _ hb (fun w hB hv=>hk _ w hB hv)
 ·obtain ⟨A,cap,rfl, -, -, -⟩:=hv.open
  exact cSection_bad A _ cap l _ _ _ _ w hB hv _ hb (fun w hB hv=>hk _ w hB hv)
section
variable {p : Pl} {L : List (Tr V3)} (h0 : p.n≠V3.zero) (hp : p.le 100000) (hL : leT L 100000) (hk : chkC (L.map txt)=0) (v : Value) (w : World) (hB : Bw w) (hv : Ts w v (L.map txt))
include h0 hp hL hk hB hv
theorem cBelow13 (hS : (underL p L).length≤512) : Calls Tryz.prog 12 #[v,.agg #[.string (rtx p.n.x),.string (rtx p.n.y),.string (rtx p.n.z),.string (rtx p.c)]] w (SolR ((underL p L).map txt) w):=by
 have:=cBelow_ok h0 hp hL hk v w hB hv hS
 rwa [PV_eq] at this
theorem cAbove13 (hS : (overL p L).length≤512) : Calls Tryz.prog 15 #[v,.agg #[.string (rtx p.n.x),.string (rtx p.n.y),.string (rtx p.n.z),.string (rtx p.c)]] w (SolR ((overL p L).map txt) w):=by
 have:=cAbove_ok h0 hp hL hk v w hB hv hS
 rwa [PV_eq] at this
end
end Go.Proofs.YtopfedbhkfdjkaaGreatDoor

/- law of chapter 13: ClipSides: the walk. -/
namespace Go.Proofs.YtopfedbhkfdjkaaGreatDoor
open Go Go.RowKit
end Go.Proofs.YtopfedbhkfdjkaaGreatDoor

/- Solids in plain Lean: neither the order of the triangles nor which point of a triangle is the first one matters for closedness, convexity and shells. No program in sight. -/
namespace Go.Proofs.YtopfedbhkfdjkaaGreatDoor
open Go Go.RowKit
section
variable {α : Type}
variable [DecidableEq α]
/-! ### What the roots say -/
end
end Go.Proofs.YtopfedbhkfdjkaaGreatDoor

/- law of chapter 12: MeshOrder: its walk. -/
namespace Go.Proofs.YtopfedbhkfdjkaaGreatDoor
open Go Go.RowKit
/-! ### Parts of a row -/
section
variable {P : Program} {ops : Array Oper} {o : Oper} {a : Act} {K : Act→World→Prop} {Q : Exit→Act→World→Prop} {E : Prop}
end
/-! ### A triangle stored into a row of triangles -/
end Go.Proofs.YtopfedbhkfdjkaaGreatDoor

/- law of chapter 13: ClipConvex: solid, and the law's walk. -/
namespace Go.Proofs.YtopfedbhkfdjkaaGreatDoor
open Go Go.RowKit
theorem vs_nth {w : World} {A : Option Addr} {n cap k : Nat} {l : List SV} {s : SV} (h : Vs w (.slice A n cap) l) (hg : l[k]?=some s) :
  ∃ b off,A=some ⟨b,off,none⟩∧w.cell? ⟨b,off+k * 3,none⟩=some (.string s.x)∧w.cell? ⟨b,off+k * 3+1,none⟩=some (.string s.y)∧w.cell? ⟨b,off+k * 3+2,none⟩=some (.string s.z):=by
 obtain ⟨A',cap',hv,_,_,hcell⟩:=h.open
 cases hv
 obtain ⟨b,off,hA,hcl⟩:=hcell (by have:=(List.getElem?_eq_some_iff.1 hg).1; omega)
 exact ⟨b,off,hA,hcl k s hg⟩
end Go.Proofs.YtopfedbhkfdjkaaGreatDoor

/- vector.Range on numbers. -/
namespace Go.Proofs.YtopfedbhkfdjkaaGreatDoor
open Go Go.RowKit
def RgOK (a : V3) (l : List V3) (lo hi : Rat) : Prop:=rz lo≤200∧rz hi≤200∧∀ x ∈ l,lo≤x.dot a∧x.dot a≤hi
theorem rg_first {a x : V3} (hx : x.le 20) (ha : a.le 20) : RgOK a [x] (x.dot a) (x.dot a) :=
 ⟨rz_dot hx ha (by omega),rz_dot hx ha (by omega),fun y hy=>by cases List.mem_singleton.1 hy; exact ⟨by grind,by grind⟩⟩
theorem rsg_neg_iff {x y : Rat} : (rsg (x - y)<0)↔x<y:=by
 unfold rsg rcmp
 split
 ·constructor<;>intro<;>first | omega | grind
 ·split
  ·constructor<;>intro<;>first | omega | grind
  ·constructor<;>intro<;>first | omega | grind
theorem rsg_pos_iff {x y : Rat} : (0<rsg (x - y))↔y<x:=by
 unfold rsg rcmp
 split
 ·constructor<;>intro<;>first | omega | grind
 ·split
  ·constructor<;>intro<;>first | omega | grind
  ·constructor<;>intro<;>first | omega | grind
theorem RgOK.next {a x : V3} {l : List V3} {lo hi : Rat} (h : RgOK a l lo hi) (hx : x.le 20) (ha : a.le 20) :
  RgOK a (l++[x]) (if x.dot a<lo then x.dot a else lo) (if hi<x.dot a then x.dot a else hi):=by
 have hd:=rz_dot hx ha (n:=200) (by omega)
 refine ⟨?_, ?_,fun y hy=>?_⟩
 ·split
  ·exact hd
  ·exact h.1
 ·split
  ·exact hd
  ·exact h.2.1
 ·rcases List.mem_append.1 hy with hy | hy
  ·have:=h.2.2 y hy
   constructor<;>split<;>grind
  ·cases List.mem_singleton.1 hy
   constructor<;>split<;>grind
set_option maxHeartbeats 4000000 in
set_option maxRecDepth 100000 in
theorem range_at (a : V3) (l : List V3) (n : Nat) (hn : l.length=n) (h0 : 0<n) (hm : n≤1536) (A : Option Addr) (cap : Nat) (w : World) (hB : Bw w) (hv : Vs w (.slice A n cap) (tvs l)) (hle : ∀ x ∈ l,x.le 20) (ha : a.le 20)
  (hck : ∀ w v,Bw w→Vs w v (tvs l)→Calls Tryz.prog 71 #[v] w fun e w'=>e=.returned (.int .i64 0)∧Below w.heap.size w w')
  (hva : ∀ w,Bw w→Calls Tryz.prog 32 #[.agg #[.string (rtx a.x),.string (rtx a.y),.string (rtx a.z)]] w fun e w'=>e=.returned (.bool true)∧Below w.heap.size w w')
  (hd : ∀ x ∈ l,∀ w,Bw w→Calls Tryz.prog 72 #[.agg #[.string (rtx x.x),.string (rtx x.y),.string (rtx x.z)],.agg #[.string (rtx a.x),.string (rtx a.y),.string (rtx a.z)]] w fun e w'=>e=.returned (.string (rtx (x.dot a)))∧Below w.heap.size w w')
  (hs : ∀ x y : Rat,rz x≤200→rz y≤200→∀ w,Bw w→Calls Tryz.prog 76 #[.string (rtx x),.string (rtx y)] w fun e w'=>e=.returned (.string (rtx (x - y)))∧Below w.heap.size w w')
  (hg : ∀ x y : Rat,rz x≤200→rz y≤200→∀ w,Bw w→Calls Tryz.prog 64 #[.string (rtx (x - y))] w fun e w'=>e=.returned (.int .i64 (rsg (x - y)))∧Below w.heap.size w w') :
  Calls Tryz.prog 39 #[.slice A n cap,.agg #[.string (rtx a.x),.string (rtx a.y),.string (rtx a.z)]] w
   (Ret fun r w'=>(∃ lo hi,r=.tuple #[.agg #[.string (rtx lo),.string (rtx hi)],.int .i64 0]∧RgOK a l lo hi)∧Below w.heap.size w w'):=by
 have hcap : n≤cap∧cap≤9223372036854775807:=by
  obtain ⟨_,_,hv0,q1,q2,_⟩:=hv.open
  cases hv0
  exact ⟨by rw [tvs_length] at q1; omega,q2⟩
 have HV:=Lib.hid hv
 have HL:=Lib.hid hle
 have HA:=Lib.hid ha
 have HCK:=Lib.hid hck
 have HD:=Lib.hid hd
 have HS:=Lib.hid hs
 have HG:=Lib.hid hg
 have HX:=Lib.hid (fun k (hk : k<n)=>(show ∃ x,l[k]?=some x∧x ∈ l∧(tvs l)[k]?=some (txv x) from ⟨l[k]'(by omega),List.getElem?_eq_getElem (by omega),List.getElem_mem _,by rw [show tvs l=l.map txv from rfl,List.getElem?_map,List.getElem?_eq_getElem (by omega)]; rfl⟩))
 have HN:=Lib.hid hn
 clear hv hle ha hck hd hs hg hn
 generalize hy1 : rtx a.x=y1 at *
 generalize hy2 : rtx a.y=y2 at *
 generalize hy3 : rtx a.z=y3 at *
 have HVA:=Lib.hid hva
 clear hva hy1 hy2 hy3
 have hn0 : ((n : Int) == 0)=false:=by simpa using (by omega : ¬ n=0)
 have hn1 : decide ((n : Int) > 1536)=false:=decide_eq_false (by omega)
 go_enter Tryz.func39,Tryz.ntmps39
 go_wp2_with fail
 refine (HCK.out _ _ (hB.below bel) (HV.out.below bel)).mono ?_
 rintro e w1 ⟨rfl,g1⟩
 have KA : Hid (Bk w1 w.heap.size [.string y1,.string y2,.string y3]):=Lib.hid (Bk.below bkk g1)
 have KR : Hid (Bk w1 (w.heap.size+1) [.string ⟨#[]⟩,.string ⟨#[]⟩]):=Lib.hid (Bk.below bkk g1)
 have B1:=bn (w:=w) bel g1
 clear g1
 obtain ⟨x0,x1,x2, -, -, -⟩:=KA.out.c3
 go_wp2_with fail
 refine (HVA.out _ (hB.below bel)).mono ?_
 rintro e w2 ⟨rfl,g2⟩
 replace KA:=Lib.hid (KA.out.below (bn bel g2))
 replace KR:=Lib.hid (KR.out.below (bn bel g2))
 have B2 : Below w.heap.size w w2:=bn B1 (bn bel g2)
 clear g2 x0 x1 x2 B1
 obtain ⟨f,hf0,hfm,hft⟩:=HX.out 0 h0
 obtain ⟨b,off,hA,c0,c1,c2⟩:=vs_nth (HV.out.below B2) hft
 subst hA
 have HDf:=Lib.hid (HD.out f hfm)
 have RG:=Lib.hid (show RgOK a (l.take (0+1)) (f.dot a) (f.dot a) by
  rw [List.take_add_one,hf0]
  exact rg_first (HL.out f hfm) HA.out)
 clear hf0 hfm hft
 obtain ⟨fl,hfl⟩ : ∃ x,x=f.dot a:=⟨_,rfl⟩
 rw [← hfl] at HDf RG
 dsimp only [txv] at c0 c1 c2
 simp only [Nat.zero_mul,Nat.add_zero] at c0 c1 c2
 generalize rtx f.x=z1 at *
 generalize rtx f.y=z2 at *
 generalize rtx f.z=z3 at *
 generalize hyl : rtx fl=yl at *
 obtain ⟨x0,x1,x2, -, -, -⟩:=KA.out.c3
 have hzA:=KA.out.lt
 have hzb:=World.block_lt_of_cell? w2 _ c0
 go_wp2
 go_region_held3 (fun w'=>w'.cell? ⟨b,off,none⟩=some (.string z1)∧w'.cell? ⟨b,off+1,none⟩=some (.string z2)∧w'.cell? ⟨b,off+2,none⟩=some (.string z3)∧w'.cell? ⟨w.heap.size,0,none⟩=some (.string y1)∧w'.cell? ⟨w.heap.size,1,none⟩=some (.string y2)∧w'.cell? ⟨w.heap.size,2,none⟩=some (.string y3)∧Below w2.heap.size w2 w')
  ((refine (fun hb=>⟨bc hb c0,bc hb c1,bc hb c2,bc hb x0,bc hb x1,bc hb x2,hb⟩) ?_; go_split_ands; repeat (first | with_reducible assumption | (with_reducible exact bd (br _)) | (with_reducible exact br _) | (with_reducible refine bn ?_ g) | (with_reducible refine ba ?_) | (with_reducible refine bd ?_))))
  (first | (go_at_call 72; refine (HDf.out _ (hB.below (bn B2 (by go_split_ands; assumption)))).mono ?_; rintro e w3 ⟨rfl,g⟩; have B3 : Below w2.heap.size w2 w3:=bn (by go_split_ands; assumption) g))
 replace KA:=Lib.hid (KA.out.below B3)
 replace KR:=Lib.hid (KR.out.below B3)
 have B4 : Below w.heap.size w w3:=bn B2 B3
 clear B2 B3 c0 c1 c2 x0 x1 x2 hzA hzb HDf HCK HVA
 obtain ⟨m,hm0⟩ : ∃ m,n - 1=m:=⟨_,rfl⟩
 have hnm : n=m+1:=by omega
 have KO : Hid (Bk (w3.alloc (.cells #[.string yl,.string yl] 71)) w3.heap.size [.string yl,.string yl]):=Lib.hid (bk_at rfl)
 have KA0 : Hid (Bk (w3.alloc (.cells #[.string yl,.string yl] 71)) w.heap.size [.string y1,.string y2,.string y3]):=Lib.hid (Bk.alloc KA.out _)
 have KR0 : Hid (Bk (w3.alloc (.cells #[.string yl,.string yl] 71)) (w.heap.size+1) [.string ⟨#[]⟩,.string ⟨#[]⟩]):=Lib.hid (Bk.alloc KR.out _)
 have B5 : Below w.heap.size w (w3.alloc (.cells #[.string yl,.string yl] 71)):=ba B4
 have hzR:=KR.out.lt
 have hnr : Hid (rtx fl=yl):=Lib.hid hyl
 clear KA KR hyl hfl
 go_wp2_with fail
 ·obtain rfl : m=0:=by omega
  skip
  go_loopw [42] (fun ii wr=>∃ (k : Nat) (lo hi : Rat),k≤0∧ii=.int .i64 k∧RgOK a (l.take (k+1)) lo hi∧Bk wr w3.heap.size [.string (rtx lo),.string (rtx hi)]∧Bk wr w.heap.size [.string y1,.string y2,.string y3]∧Bk wr (w.heap.size+1) [.string ⟨#[]⟩,.string ⟨#[]⟩]∧Below w.heap.size w wr) (fun ii _=>0 - (intOf ii).toNat)
  case atStart=>exact ⟨0,fl,fl,Nat.zero_le _,rfl,RG.out,by rw [hnr.out]; exact KO.out,KA0.out,KR0.out,B5⟩
  case round =>
   obtain ⟨k,lo,hi,hk,rfl,rg,kb,ka,kr,hb⟩:=hrel
   clear RG KO KA0 KR0 B5 hnr B4
   obtain rfl : k=0:=by omega
   have hl : l.take (0+1)=l:=List.take_of_length_le (by rw [HN.out]; omega)
   rw [hl] at rg
   have RG:=Lib.hid rg
   clear rg hl
   generalize hlo : rtx lo=yo at *
   generalize hhi : rtx hi=yh at *
   obtain ⟨o0,o1,f0,f1⟩:=kb.c2
   obtain ⟨r0,r1,fr0,fr1⟩:=kr.c2
   have hz1:=kb.lt
   have hz2:=kr.lt
   have hnr : Hid (rtx lo=yo∧rtx hi=yh):=Lib.hid ⟨hlo,hhi⟩
   clear hlo hhi
   go_wp2
   refine bodyPost_ret (v:=.tuple #[.agg #[.string yo,.string yh],.int .i64 0]) (by simp [results,Tryz.results39,go_sem, *]) rfl ?_
   exact ⟨_,rfl,⟨lo,hi,by rw [hnr.out.1,hnr.out.2],RG.out⟩,bel⟩
 ·skip
  simp only [hm0] at *
  go_loopw [42] (fun ii wr=>∃ (k : Nat) (lo hi : Rat),k≤m∧ii=.int .i64 k∧RgOK a (l.take (k+1)) lo hi∧Bk wr w3.heap.size [.string (rtx lo),.string (rtx hi)]∧Bk wr w.heap.size [.string y1,.string y2,.string y3]∧Bk wr (w.heap.size+1) [.string ⟨#[]⟩,.string ⟨#[]⟩]∧Below w.heap.size w wr) (fun ii _=>m - (intOf ii).toNat)
  case atStart=>exact ⟨0,fl,fl,Nat.zero_le _,rfl,RG.out,by rw [hnr.out]; exact KO.out,KA0.out,KR0.out,B5⟩
  case round =>
   obtain ⟨k,lo,hi,hk,rfl,rg,kb,ka,kr,hb⟩:=hrel
   clear RG KO KA0 KR0 B5 hnr B4
   by_cases hlt : k<m
   ·obtain ⟨x,hx,hxm,hxt⟩:=HX.out (k+1) (by omega)
    obtain ⟨b2,off2,hA2,c0,c1,c2⟩:=vs_nth (HV.out.below hb) hxt
    cases hA2
    dsimp only [txv] at c0 c1 c2
    rw [show off + (k+1) * 3=off+3+k * 3 by omega] at c0 c1 c2
    have HDx:=Lib.hid (HD.out x hxm)
    have rg2:=rg.next (HL.out x hxm) HA.out
    rw [show l.take (k+1)++[x]=l.take (k+1+1) by rw [List.take_add_one (i:=k+1),hx]; rfl] at rg2
    have RG2:=Lib.hid rg2
    have hd1:=rz_dot (HL.out x hxm) HA.out (n:=200) (by omega)
    have S1:=Lib.hid (HS.out (x.dot a) lo hd1 rg.1)
    have G1:=Lib.hid (HG.out (x.dot a) lo hd1 rg.1)
    have S2:=Lib.hid (HS.out (x.dot a) hi hd1 rg.2.1)
    have G2:=Lib.hid (HG.out (x.dot a) hi hd1 rg.2.1)
    have e1 : Hid (rsg (x.dot a - lo)<0↔x.dot a<lo):=Lib.hid rsg_neg_iff
    have e2 : Hid (0<rsg (x.dot a - hi)↔hi<x.dot a):=Lib.hid rsg_pos_iff
    clear rg rg2 hd1 hx hxm hxt
    generalize x.dot a=d at *
    generalize rtx x.x=z1 at *
    generalize rtx x.y=z2 at *
    generalize rtx x.z=z3 at *
    have RT : Hid (∀ u : Rat,rtx u=rtx u):=Lib.hid (fun _=>rfl)
    generalize hyd : rtx d=yd at *
    generalize hyo : rtx lo=yo at *
    generalize hyh : rtx hi=yh at *
    generalize rtx (d - lo)=ys at *
    generalize rtx (d - hi)=yt at *
    generalize rsg (d - lo)=s1 at *
    generalize rsg (d - hi)=s2 at *
    have HY : Hid (rtx d=yd∧rtx lo=yo∧rtx hi=yh):=Lib.hid ⟨hyd,hyo,hyh⟩
    clear hyd hyo hyh RT
    have hk0 : (0 : Int)≤(k : Int):=by omega
    have hkn : (k : Int)<(m : Int):=by omega
    have hzb:=World.block_lt_of_cell? wr _ c0
    obtain ⟨q0,q1,q2, -, -, -⟩:=ka.c3
    have hza:=ka.lt
    have hzb2:=kb.lt
    have KB:=Lib.hid kb
    have KA:=Lib.hid ka
    have KR:=Lib.hid kr
    clear kb ka kr
    go_wp2_with fail
    refine (HDx.out _ (hB.below bel)).mono ?_
    rintro e v1 ⟨rfl,g1⟩
    replace KB:=Lib.hid (KB.out.below (bn bel g1))
    replace KA:=Lib.hid (KA.out.below (bn bel g1))
    replace KR:=Lib.hid (KR.out.below (bn bel g1))
    have C1 : Below w.heap.size w v1:=bn hb (bn bel g1)
    clear g1 c0 c1 c2 q0 q1 q2 hza hzb hzb2 hb HDx
    obtain ⟨o0,o1,f0,f1⟩:=KB.out.c2
    go_wp2_with fail
    refine (S1.out _ (hB.below bel)).mono ?_
    rintro e v2 ⟨rfl,g2⟩
    go_wp2_with fail
    refine (G1.out _ (hB.below (bn C1 (bn bel g2)))).mono ?_
    rintro e v3 ⟨rfl,g3⟩
    replace g3:=bn (bn bel g2) (bn (by repeat (first | with_reducible assumption | exact br _ | refine bd ?_)) g3)
    replace KB:=Lib.hid (KB.out.below g3)
    replace KA:=Lib.hid (KA.out.below g3)
    replace KR:=Lib.hid (KR.out.below g3)
    have C3 : Below w.heap.size w v3:=bn C1 g3
    clear g2 g3 o0 o1 f0 f1 C1 S1 G1
    obtain ⟨o0,o1,f0,f1⟩:=KB.out.c2
    have hz3:=KB.out.lt
    have hz4:=KR.out.lt
    by_cases hc1 : s1<0
    ·have hd1 : decide (s1<0)=true:=decide_eq_true hc1
     have hr1:=e1.out.1 hc1
     have KB2 : Hid (Bk (v3.setCell ⟨w3.heap.size,0,none⟩ (.string yd)) w3.heap.size [.string yd,.string yh]):=Lib.hid (KB.out.set 0 (by simp) _)
     have KA2 : Hid (Bk (v3.setCell ⟨w3.heap.size,0,none⟩ (.string yd)) w.heap.size [.string y1,.string y2,.string y3]):=Lib.hid (KA.out.far (by simp; omega) _)
     have KR2 : Hid (Bk (v3.setCell ⟨w3.heap.size,0,none⟩ (.string yd)) (w.heap.size+1) [.string ⟨#[]⟩,.string ⟨#[]⟩]):=Lib.hid (KR.out.far (by simp; omega) _)
     have C4 : Below w.heap.size w (v3.setCell ⟨w3.heap.size,0,none⟩ (.string yd)):=bs C3 (by simp; omega)
     go_wp2_with fail
     clear o0 o1 f0 f1
     generalize v3.setCell ⟨w3.heap.size,0,none⟩ (.string yd)=v4 at *
     clear KB KA KR
     have KB:=KB2
     have KA:=KA2
     have KR:=KR2
     clear KB2 KA2 KR2
     obtain ⟨o0,o1,f0,f1⟩:=KB.out.c2
     refine (S2.out _ (hB.below bel)).mono ?_
     rintro e v5 ⟨rfl,g5⟩
     go_wp2_with fail
     refine (G2.out _ (hB.below (bn C4 (bn bel g5)))).mono ?_
     rintro e v6 ⟨rfl,g6⟩
     replace g6:=bn (bn bel g5) (bn (by repeat (first | with_reducible assumption | exact br _ | refine bd ?_)) g6)
     replace KB:=Lib.hid (KB.out.below g6)
     replace KA:=Lib.hid (KA.out.below g6)
     replace KR:=Lib.hid (KR.out.below g6)
     have C6 : Below w.heap.size w v6:=bn C4 g6
     clear g5 g6 o0 o1 f0 f1
     obtain ⟨o0,o1,f0,f1⟩:=KB.out.c2
     have hz6:=KB.out.lt
     by_cases hc2 : 0<s2
     ·have hd2 : decide (s2 > 0)=true:=decide_eq_true hc2
      have hr2:=e2.out.1 hc2
      go_wp2
      go_roundw
      case rel=>exact ⟨k+1,d,d,by omega,by go_num,by have:=RG2.out; rw [if_pos hr1,if_pos hr2] at this; exact this,by rw [HY.out.1]; (try rw [HY.out.1]); exact KB.out.set 1 (by simp) _,KA.out.far (by simp; omega) _,KR.out.far (by simp; omega) _,bs C6 (by simp; omega)⟩
      case measure=>simp [intOf]; omega
     ·have hd2 : decide (s2 > 0)=false:=decide_eq_false hc2
      have hr2:=fun h=>hc2 (e2.out.2 h)
      go_wp2
      go_roundw
      case rel=>exact ⟨k+1,d,hi,by omega,by go_num,by have:=RG2.out; rw [if_pos hr1,if_neg hr2] at this; exact this,by rw [HY.out.1,HY.out.2.2]; exact KB.out,KA.out,KR.out,C6⟩
      case measure=>simp [intOf]; omega
    ·have hd1 : decide (s1<0)=false:=decide_eq_false hc1
     have hr1:=fun h=>hc1 (e1.out.2 h)
     have C4:=C3
     clear o0 o1 f0 f1
     obtain ⟨o0,o1,f0,f1⟩:=KB.out.c2
     go_wp2_with fail
     refine (S2.out _ (hB.below bel)).mono ?_
     rintro e v5 ⟨rfl,g5⟩
     go_wp2_with fail
     refine (G2.out _ (hB.below (bn C4 (bn bel g5)))).mono ?_
     rintro e v6 ⟨rfl,g6⟩
     replace g6:=bn (bn bel g5) (bn (by repeat (first | with_reducible assumption | exact br _ | refine bd ?_)) g6)
     replace KB:=Lib.hid (KB.out.below g6)
     replace KA:=Lib.hid (KA.out.below g6)
     replace KR:=Lib.hid (KR.out.below g6)
     have C6 : Below w.heap.size w v6:=bn C4 g6
     clear g5 g6 o0 o1 f0 f1
     obtain ⟨o0,o1,f0,f1⟩:=KB.out.c2
     have hz6:=KB.out.lt
     by_cases hc2 : 0<s2
     ·have hd2 : decide (s2 > 0)=true:=decide_eq_true hc2
      have hr2:=e2.out.1 hc2
      go_wp2
      go_roundw
      case rel=>exact ⟨k+1,lo,d,by omega,by go_num,by have:=RG2.out; rw [if_neg hr1,if_pos hr2] at this; exact this,by rw [HY.out.2.1]; (try rw [HY.out.1]); exact KB.out.set 1 (by simp) _,KA.out.far (by simp; omega) _,KR.out.far (by simp; omega) _,bs C6 (by simp; omega)⟩
      case measure=>simp [intOf]; omega
     ·have hd2 : decide (s2 > 0)=false:=decide_eq_false hc2
      have hr2:=fun h=>hc2 (e2.out.2 h)
      go_wp2
      go_roundw
      case rel=>exact ⟨k+1,lo,hi,by omega,by go_num,by have:=RG2.out; rw [if_neg hr1,if_neg hr2] at this; exact this,by rw [HY.out.2.1,HY.out.2.2]; exact KB.out,KA.out,KR.out,C6⟩
      case measure=>simp [intOf]; omega
   ·obtain rfl : k=m:=by omega
    have hl : l.take (k+1)=l:=List.take_of_length_le (by rw [HN.out]; omega)
    rw [hl] at rg
    have RG:=Lib.hid rg
    clear rg hl
    generalize hlo : rtx lo=yo at *
    generalize hhi : rtx hi=yh at *
    obtain ⟨o0,o1,f0,f1⟩:=kb.c2
    obtain ⟨r0,r1,fr0,fr1⟩:=kr.c2
    have hz1:=kb.lt
    have hz2:=kr.lt
    have hnr : Hid (rtx lo=yo∧rtx hi=yh):=Lib.hid ⟨hlo,hhi⟩
    clear hlo hhi
    go_wp2
    refine bodyPost_ret (v:=.tuple #[.agg #[.string yo,.string yh],.int .i64 0]) (by simp [results,Tryz.results39,go_sem, *]) rfl ?_
    exact ⟨_,rfl,⟨lo,hi,by rw [hnr.out.1,hnr.out.2],RG.out⟩,bel⟩
theorem vRange_walk {a : V3} {l : List V3} (h0 : 0<l.length) (hm : l.length≤1536) (hle : ∀ x ∈ l,x.le 20) (ha : a.le 20) (v : Value) (w : World) (hB : Bw w) (hv : Vs w v (tvs l)) :
  Calls Tryz.prog 39 #[v,.agg #[.string (rtx a.x),.string (rtx a.y),.string (rtx a.z)]] w
   (Ret fun r w'=>(∃ lo hi,r=.tuple #[.agg #[.string (rtx lo),.string (rtx hi)],.int .i64 0]∧RgOK a l lo hi)∧Below w.heap.size w w'):=by
 obtain ⟨A,cap,rfl, -, -, -⟩:=hv.open
 rw [tvs_length] at hv ⊢
 refine range_at a l l.length rfl h0 hm A cap w hB hv hle ha (fun w v hB hv=>?_) (fun w hB=>?_) (fun x hx w hB=>?_) (fun x y hx hy w hB=>vsub_walk x y (by omega) (by omega) w hB) (fun x y hx hy w hB=>vsign_walk (x - y) (rz_sub_le hx hy (by omega)) w hB)
 ·have:=vcheck_walk v (tvs l) w hB hv (tvs_le hle (by omega))
  rwa [chk_yes (tvs_valid l)] at this
 ·have:=vValid_walk (txv a) (txv_le (k:=19999999) (ha.mono (by omega))) w hB
  rwa [isVec_txv] at this
 ·exact vdot_walk x a ((hle x hx).mono (by omega)) (ha.mono (by omega)) w hB
end Go.Proofs.YtopfedbhkfdjkaaGreatDoor

/- law of chapter 13: ClipAgain: the walk. -/
namespace Go.Proofs.YtopfedbhkfdjkaaGreatDoor
open Go Go.RowKit
def SolE (w : World) (e : Ending) (w' : World) : Prop:=∃ A c,e=.returned (.tuple #[.slice A 0 c,.int .i64 0])∧Below w.heap.size w w'
def EndsOK (n : Nat) (l : List TV) (x1 x2 x3 yo yh : ByteArray) : Prop:=∃ yl,(∀ w,Bw w→Calls Tryz.prog 40 #[.string yo,.string ⟨#[49]⟩] w fun e w'=>e=.returned (.tuple #[.string yl,.int .i64 0])∧Below w.heap.size w w') ∧
  (∀ A cap w,Bw w→Ts w (.slice A n cap) l→Calls Tryz.prog 12 #[.slice A n cap,.agg #[.string x1,.string x2,.string x3,.string yh]] w (SolR l w)) ∧
  (∀ A cap w,Bw w→Ts w (.slice A n cap) l→Calls Tryz.prog 15 #[.slice A n cap,.agg #[.string x1,.string x2,.string x3,.string yl]] w (SolR l w)) ∧
  (∀ A cap w,Bw w→Ts w (.slice A n cap) l→Calls Tryz.prog 12 #[.slice A n cap,.agg #[.string x1,.string x2,.string x3,.string yl]] w (SolE w))
set_option maxHeartbeats 4000000 in
set_option maxRecDepth 100000 in
theorem again_out (A : Option Addr) (n cap : Nat) (l : List TV) (x1 x2 x3 x4 : ByteArray) (w : World) (hB : Bw w) (hv : Ts w (.slice A n cap) l)
  (hf : ∀ w,Ts w (.slice A n cap) l→Calls Tryz.prog 11 #[.slice A n cap,.agg #[.string x1,.string x2,.string x3,.string x4]] w fun e w'=>e=.returned (.bool false)∧Below w.heap.size w w') :
  Calls Tryz.prog 8 #[.slice A n cap,.agg #[.string x1,.string x2,.string x3,.string x4]] w fun e w'=>e=.returned (.bool true)∧Below w.heap.size w w':=by
 have HV:=Lib.hid hv
 clear hv
 have H0:=Lib.hid (fun w hB=>awake13_walk w hB)
 have HF:=Lib.hid hf
 clear hf
 go_enter Tryz.func8,Tryz.ntmps8
 go_wp2_with fail
 refine (H0.out _ (hB.below bel)).mono ?_
 rintro e w1 ⟨rfl,g1⟩
 have HP:=Lib.hid (show Bk w1 w.heap.size [.string x1,.string x2,.string x3,.string x4] from Bk.below bkk g1)
 have S1:=bn (w:=w) bel g1
 replace HV:=Lib.hid (HV.out.below S1)
 have B1:=S1
 clear S1 g1
 obtain ⟨p0,p1,p2,p3, -⟩:=HP.out.c4
 have hpl:=HP.out.lt
 go_wp2_with fail
 refine (HF.out _ (HV.out.below bel)).mono ?_
 rintro e w2 ⟨rfl,g2⟩
 clear p0 p1 p2 p3 hpl
 have S2 : Below w1.heap.size w1 w2:=bn bel g2
 clear g2
 replace HV:=Lib.hid (HV.out.below S2)
 replace HP:=Lib.hid (HP.out.below S2)
 have B2 : Below w.heap.size w w2:=bn B1 S2
 clear S2
 go_wp2_with fail
 refine (H0.out _ (hB.below bel)).mono ?_
 rintro e w3 ⟨rfl,g3⟩
 have S3 : Below w2.heap.size w2 w3:=bn bel g3
 clear g3
 replace HV:=Lib.hid (HV.out.below S3)
 replace HP:=Lib.hid (HP.out.below S3)
 have B3 : Below w.heap.size w w3:=bn B2 S3
 clear S3
 go_wp2
 go_ret
 exact ⟨rfl,bel⟩
set_option maxHeartbeats 4000000 in
set_option maxRecDepth 100000 in
theorem again_many (A : Option Addr) (n cap : Nat) (l : List TV) (x1 x2 x3 x4 : ByteArray) (w : World) (hB : Bw w) (hv : Ts w (.slice A n cap) l)
  (hn : (24 : Int)<(n : Int))
  (hf : ∀ w,Ts w (.slice A n cap) l→Calls Tryz.prog 11 #[.slice A n cap,.agg #[.string x1,.string x2,.string x3,.string x4]] w fun e w'=>e=.returned (.bool true)∧Below w.heap.size w w') :
  Calls Tryz.prog 8 #[.slice A n cap,.agg #[.string x1,.string x2,.string x3,.string x4]] w fun e w'=>e=.returned (.bool true)∧Below w.heap.size w w':=by
 have HV:=Lib.hid hv
 clear hv
 have H0:=Lib.hid (fun w hB=>awake13_walk w hB)
 have HF:=Lib.hid hf
 clear hf
 go_enter Tryz.func8,Tryz.ntmps8
 go_wp2_with fail
 refine (H0.out _ (hB.below bel)).mono ?_
 rintro e w1 ⟨rfl,g1⟩
 have HP:=Lib.hid (show Bk w1 w.heap.size [.string x1,.string x2,.string x3,.string x4] from Bk.below bkk g1)
 have S1:=bn (w:=w) bel g1
 replace HV:=Lib.hid (HV.out.below S1)
 have B1:=S1
 clear S1 g1
 obtain ⟨p0,p1,p2,p3, -⟩:=HP.out.c4
 have hpl:=HP.out.lt
 go_wp2_with fail
 refine (HF.out _ (HV.out.below bel)).mono ?_
 rintro e w2 ⟨rfl,g2⟩
 clear p0 p1 p2 p3 hpl
 have S2 : Below w1.heap.size w1 w2:=bn bel g2
 clear g2
 replace HV:=Lib.hid (HV.out.below S2)
 replace HP:=Lib.hid (HP.out.below S2)
 have B2 : Below w.heap.size w w2:=bn B1 S2
 clear S2
 go_wp2_with fail
 refine (H0.out _ (hB.below bel)).mono ?_
 rintro e w3 ⟨rfl,g3⟩
 have S3 : Below w2.heap.size w2 w3:=bn bel g3
 clear g3
 replace HV:=Lib.hid (HV.out.below S3)
 replace HP:=Lib.hid (HP.out.below S3)
 have B3 : Below w.heap.size w w3:=bn B2 S3
 clear S3
 go_wp2
 go_ret
 exact ⟨rfl,bel⟩
set_option maxHeartbeats 4000000 in
set_option maxRecDepth 100000 in
theorem again_bad (A : Option Addr) (n cap : Nat) (l : List TV) (x1 x2 x3 x4 : ByteArray) (w : World) (hB : Bw w) (hv : Ts w (.slice A n cap) l)
  (z : Int) (hz : (z != 0)=true)
  (hn24 : (n : Int)≤24)
  (hf : ∀ w,Ts w (.slice A n cap) l→Calls Tryz.prog 11 #[.slice A n cap,.agg #[.string x1,.string x2,.string x3,.string x4]] w fun e w'=>e=.returned (.bool true)∧Below w.heap.size w w')
  (hcl : ∀ A cap w,Ts w (.slice A n cap) l→Calls Tryz.prog 13 #[.slice A n cap] w (Ret fun r w'=>(∃ A c,r=.slice A n c∧Ts w' (.slice A n c) l)∧Below w.heap.size w w'))
  (h1 : ∀ A cap w,Bw w→Ts w (.slice A n cap) l→Calls Tryz.prog 12 #[.slice A n cap,.agg #[.string x1,.string x2,.string x3,.string x4]] w fun e w'=>e=.returned (.tuple #[.slice none 0 0,.int .i64 z])∧Below w.heap.size w w') :
  Calls Tryz.prog 8 #[.slice A n cap,.agg #[.string x1,.string x2,.string x3,.string x4]] w fun e w'=>e=.returned (.bool true)∧Below w.heap.size w w':=by
 have HV:=Lib.hid hv
 clear hv
 have H0:=Lib.hid (fun w hB=>awake13_walk w hB)
 have HF:=Lib.hid hf
 clear hf
 have HCL:=Lib.hid hcl
 clear hcl
 have H1:=Lib.hid h1
 clear h1
 go_enter Tryz.func8,Tryz.ntmps8
 go_wp2_with fail
 refine (H0.out _ (hB.below bel)).mono ?_
 rintro e w1 ⟨rfl,g1⟩
 have HP:=Lib.hid (show Bk w1 w.heap.size [.string x1,.string x2,.string x3,.string x4] from Bk.below bkk g1)
 have S1:=bn (w:=w) bel g1
 replace HV:=Lib.hid (HV.out.below S1)
 have B1:=S1
 clear S1 g1
 obtain ⟨p0,p1,p2,p3, -⟩:=HP.out.c4
 have hpl:=HP.out.lt
 go_wp2_with fail
 refine (HF.out _ (HV.out.below bel)).mono ?_
 rintro e w2 ⟨rfl,g2⟩
 clear p0 p1 p2 p3 hpl
 have S2 : Below w1.heap.size w1 w2:=bn bel g2
 clear g2
 replace HV:=Lib.hid (HV.out.below S2)
 replace HP:=Lib.hid (HP.out.below S2)
 have B2 : Below w.heap.size w w2:=bn B1 S2
 clear S2
 go_wp2
 obtain ⟨p0,p1,p2,p3, -⟩:=HP.out.c4
 have hpl:=HP.out.lt
 go_region_held3 (fun w'=>w'.cell? ⟨w.heap.size,0,none⟩=some (.string x1)∧w'.cell? ⟨w.heap.size,1,none⟩=some (.string x2)∧w'.cell? ⟨w.heap.size,2,none⟩=some (.string x3)∧w'.cell? ⟨w.heap.size,3,none⟩=some (.string x4)∧Below w2.heap.size w2 w')
  ((refine (fun hb=>⟨bc hb p0,bc hb p1,bc hb p2,bc hb p3,hb⟩) ?_; go_split_ands; repeat (first | with_reducible assumption | (with_reducible exact bd (br _)) | (with_reducible exact br _) | (with_reducible refine bn ?_ g) | (with_reducible refine ba ?_) | (with_reducible refine bd ?_))))
  (first
   | (go_at_call 13; refine (HCL.out _ _ _ (HV.out.below (by go_split_ands; assumption))).mono ?_; rintro e wx1 ⟨_,rfl,⟨A4,c4,rfl,q3⟩,g⟩; have X1 : Below w2.heap.size w2 wx1:=bn (by go_split_ands; assumption) g; have V3:=Lib.hid q3; clear q3)
   | (go_at_call 12; have X1x:=X1; refine (H1.out _ _ _ (hB.below (bn B2 (by go_split_ands; assumption))) (V3.out.below (by repeat (first | with_reducible exact br _ | with_reducible assumption | with_reducible refine ba ?_ | with_reducible refine bd ?_ | (refine below_drewN ?_ _))))).mono ?_; rintro e w3 ⟨rfl,g⟩; have S3 : Below w2.heap.size w2 w3:=bn (by go_split_ands; assumption) g))
 clear V3
 clear p0 p1 p2 p3 hpl
 replace HV:=Lib.hid (HV.out.below S3)
 replace HP:=Lib.hid (HP.out.below S3)
 have B3 : Below w.heap.size w w3:=bn B2 S3
 clear S3
 go_wp2
 go_ret
 exact ⟨rfl,bel⟩
set_option maxHeartbeats 4000000 in
set_option maxRecDepth 100000 in
theorem again_none (A : Option Addr) (n cap : Nat) (l : List TV) (x1 x2 x3 x4 : ByteArray) (w : World) (hB : Bw w) (hv : Ts w (.slice A n cap) l)
  (D : List TV) (nd : Nat) (hnd : D.length=nd) (ps : List SV)
  (hn24 : (n : Int)≤24)
  (hf : ∀ w,Ts w (.slice A n cap) l→Calls Tryz.prog 11 #[.slice A n cap,.agg #[.string x1,.string x2,.string x3,.string x4]] w fun e w'=>e=.returned (.bool true)∧Below w.heap.size w w')
  (hcl : ∀ A cap w,Ts w (.slice A n cap) l→Calls Tryz.prog 13 #[.slice A n cap] w (Ret fun r w'=>(∃ A c,r=.slice A n c∧Ts w' (.slice A n c) l)∧Below w.heap.size w w'))
  (h1 : ∀ A cap w,Bw w→Ts w (.slice A n cap) l→Calls Tryz.prog 12 #[.slice A n cap,.agg #[.string x1,.string x2,.string x3,.string x4]] w (SolR D w))
  (hcd : ∀ A cap w,Ts w (.slice A nd cap) D→Calls Tryz.prog 13 #[.slice A nd cap] w (Ret fun r w'=>(∃ A c,r=.slice A nd c∧Ts w' (.slice A nd c) D)∧Below w.heap.size w w'))
  (h2 : ∀ A cap w,Bw w→Ts w (.slice A nd cap) D→Calls Tryz.prog 12 #[.slice A nd cap,.agg #[.string x1,.string x2,.string x3,.string x4]] w (SolR D w))
  (h3 : ∀ A cap w,Bw w→Ts w (.slice A nd cap) D→Calls Tryz.prog 15 #[.slice A nd cap,.agg #[.string x1,.string x2,.string x3,.string x4]] w (SolE w))
  (hp : ∀ v w,Bw w→Ts w v l→Calls Tryz.prog 38 #[v] w (Ret fun r w'=>(∃ u,r=.tuple #[u,.int .i64 0]∧Vs w' u ps)∧Below w.heap.size w w'))
  (h0 : ps.length=0) :
  Calls Tryz.prog 8 #[.slice A n cap,.agg #[.string x1,.string x2,.string x3,.string x4]] w fun e w'=>e=.returned (.bool true)∧Below w.heap.size w w':=by
 have HV:=Lib.hid hv
 clear hv
 have H0:=Lib.hid (fun w hB=>awake13_walk w hB)
 have HPT:=Lib.hid hp
 clear hp
 have HF:=Lib.hid hf
 clear hf
 have HCL:=Lib.hid hcl
 clear hcl
 have H1:=Lib.hid h1
 clear h1
 have HND:=Lib.hid hnd
 clear hnd
 have HCD:=Lib.hid hcd
 clear hcd
 have H2:=Lib.hid h2
 clear h2
 have H3:=Lib.hid h3
 clear h3
 go_enter Tryz.func8,Tryz.ntmps8
 go_wp2_with fail
 refine (H0.out _ (hB.below bel)).mono ?_
 rintro e w1 ⟨rfl,g1⟩
 have HP:=Lib.hid (show Bk w1 w.heap.size [.string x1,.string x2,.string x3,.string x4] from Bk.below bkk g1)
 have S1:=bn (w:=w) bel g1
 replace HV:=Lib.hid (HV.out.below S1)
 have B1:=S1
 clear S1 g1
 obtain ⟨p0,p1,p2,p3, -⟩:=HP.out.c4
 have hpl:=HP.out.lt
 go_wp2_with fail
 refine (HF.out _ (HV.out.below bel)).mono ?_
 rintro e w2 ⟨rfl,g2⟩
 clear p0 p1 p2 p3 hpl
 have S2 : Below w1.heap.size w1 w2:=bn bel g2
 clear g2
 replace HV:=Lib.hid (HV.out.below S2)
 replace HP:=Lib.hid (HP.out.below S2)
 have B2 : Below w.heap.size w w2:=bn B1 S2
 clear S2
 go_wp2
 obtain ⟨p0,p1,p2,p3, -⟩:=HP.out.c4
 have hpl:=HP.out.lt
 go_region_held3 (fun w'=>w'.cell? ⟨w.heap.size,0,none⟩=some (.string x1)∧w'.cell? ⟨w.heap.size,1,none⟩=some (.string x2)∧w'.cell? ⟨w.heap.size,2,none⟩=some (.string x3)∧w'.cell? ⟨w.heap.size,3,none⟩=some (.string x4)∧Below w2.heap.size w2 w')
  ((refine (fun hb=>⟨bc hb p0,bc hb p1,bc hb p2,bc hb p3,hb⟩) ?_; go_split_ands; repeat (first | with_reducible assumption | (with_reducible exact bd (br _)) | (with_reducible exact br _) | (with_reducible refine bn ?_ g) | (with_reducible refine ba ?_) | (with_reducible refine bd ?_))))
  (first
   | (go_at_call 13; refine (HCL.out _ _ _ (HV.out.below (by go_split_ands; assumption))).mono ?_; rintro e wx1 ⟨_,rfl,⟨A4,c4,rfl,q3⟩,g⟩; have X1 : Below w2.heap.size w2 wx1:=bn (by go_split_ands; assumption) g; have V3:=Lib.hid q3; clear q3)
   | (go_at_call 12; have X1x:=X1; refine (H1.out _ _ _ (hB.below (bn B2 (by go_split_ands; assumption))) (V3.out.below (by repeat (first | with_reducible exact br _ | with_reducible assumption | with_reducible refine ba ?_ | with_reducible refine bd ?_ | (refine below_drewN ?_ _))))).mono ?_; rintro e w3 ⟨AD,cD,rfl,qD,g⟩; have S3 : Below w2.heap.size w2 w3:=bn (by go_split_ands; assumption) g))
 clear V3
 clear p0 p1 p2 p3 hpl
 replace HV:=Lib.hid (HV.out.below S3)
 replace HP:=Lib.hid (HP.out.below S3)
 have B3 : Below w.heap.size w w3:=bn B2 S3
 clear S3
 rw [HND.out] at qD ⊢
 have VD:=Lib.hid qD
 clear qD
 go_wp2
 obtain ⟨p0,p1,p2,p3, -⟩:=HP.out.c4
 have hpl:=HP.out.lt
 go_region_held3 (fun w'=>w'.cell? ⟨w.heap.size,0,none⟩=some (.string x1)∧w'.cell? ⟨w.heap.size,1,none⟩=some (.string x2)∧w'.cell? ⟨w.heap.size,2,none⟩=some (.string x3)∧w'.cell? ⟨w.heap.size,3,none⟩=some (.string x4)∧Below w3.heap.size w3 w')
  ((refine (fun hb=>⟨bc hb p0,bc hb p1,bc hb p2,bc hb p3,hb⟩) ?_; go_split_ands; repeat (first | with_reducible assumption | (with_reducible exact bd (br _)) | (with_reducible exact br _) | (with_reducible refine bn ?_ g) | (with_reducible refine ba ?_) | (with_reducible refine bd ?_))))
  (first
   | (go_at_call 13; refine (HCD.out _ _ _ (VD.out.below (by go_split_ands; assumption))).mono ?_; rintro e wx1 ⟨_,rfl,⟨A4,c4,rfl,q3⟩,g⟩; have X1 : Below w3.heap.size w3 wx1:=bn (by go_split_ands; assumption) g; have V3:=Lib.hid q3; clear q3)
   | (go_at_call 12; have X1x:=X1; refine (H2.out _ _ _ (hB.below (bn B3 (by go_split_ands; assumption))) (V3.out.below (by repeat (first | with_reducible exact br _ | with_reducible assumption | with_reducible refine ba ?_ | with_reducible refine bd ?_ | (refine below_drewN ?_ _))))).mono ?_; rintro e w4 ⟨AB,cB,rfl,qB,g⟩; have S4 : Below w3.heap.size w3 w4:=bn (by go_split_ands; assumption) g))
 clear V3
 clear p0 p1 p2 p3 hpl
 replace HV:=Lib.hid (HV.out.below S4)
 replace HP:=Lib.hid (HP.out.below S4)
 replace VD:=Lib.hid (VD.out.below S4)
 have B4 : Below w.heap.size w w4:=bn B3 S4
 clear S4
 have VB:=Lib.hid qB
 clear qB
 go_wp2
 obtain ⟨p0,p1,p2,p3, -⟩:=HP.out.c4
 have hpl:=HP.out.lt
 go_region_held3 (fun w'=>w'.cell? ⟨w.heap.size,0,none⟩=some (.string x1)∧w'.cell? ⟨w.heap.size,1,none⟩=some (.string x2)∧w'.cell? ⟨w.heap.size,2,none⟩=some (.string x3)∧w'.cell? ⟨w.heap.size,3,none⟩=some (.string x4)∧Below w4.heap.size w4 w')
  ((refine (fun hb=>⟨bc hb p0,bc hb p1,bc hb p2,bc hb p3,hb⟩) ?_; go_split_ands; repeat (first | with_reducible assumption | (with_reducible exact bd (br _)) | (with_reducible exact br _) | (with_reducible refine bn ?_ g) | (with_reducible refine ba ?_) | (with_reducible refine bd ?_))))
  (first
   | (go_at_call 13; refine (HCD.out _ _ _ (VD.out.below (by go_split_ands; assumption))).mono ?_; rintro e wx1 ⟨_,rfl,⟨A4,c4,rfl,q3⟩,g⟩; have X1 : Below w4.heap.size w4 wx1:=bn (by go_split_ands; assumption) g; have V3:=Lib.hid q3; clear q3)
   | (go_at_call 15; have X1x:=X1; refine (H3.out _ _ _ (hB.below (bn B4 (by go_split_ands; assumption))) (V3.out.below (by repeat (first | with_reducible exact br _ | with_reducible assumption | with_reducible refine ba ?_ | with_reducible refine bd ?_ | (refine below_drewN ?_ _))))).mono ?_; rintro e w5 ⟨AC,cC,rfl,g⟩; have S5 : Below w4.heap.size w4 w5:=bn (by go_split_ands; assumption) g))
 clear V3
 clear p0 p1 p2 p3 hpl
 replace HV:=Lib.hid (HV.out.below S5)
 replace HP:=Lib.hid (HP.out.below S5)
 replace VD:=Lib.hid (VD.out.below S5)
 replace VB:=Lib.hid (VB.out.below S5)
 have B5 : Below w.heap.size w w5:=bn B4 S5
 clear S5
 go_wp2_with fail
 refine (refSame_walk _ _ D _ (VD.out.below bel) (VB.out.below bel)).mono ?_
 rintro e w6 ⟨rfl,g6⟩
 have S6 : Below w5.heap.size w5 w6:=bn bel g6
 clear g6
 replace HV:=Lib.hid (HV.out.below S6)
 replace HP:=Lib.hid (HP.out.below S6)
 replace VD:=Lib.hid (VD.out.below S6)
 replace VB:=Lib.hid (VB.out.below S6)
 have B6 : Below w.heap.size w w6:=bn B5 S6
 clear S6
 clear VB VD
 go_wp2_with fail
 refine (HCL.out _ _ _ (HV.out.below bel)).mono ?_
 rintro e w7 ⟨_,rfl,⟨A9,c9,rfl,q9⟩,g7⟩
 have V9:=Lib.hid q9
 clear q9
 have S7 : Below w6.heap.size w6 w7:=bn bel g7
 clear g7
 replace HV:=Lib.hid (HV.out.below S7)
 replace HP:=Lib.hid (HP.out.below S7)
 have B7 : Below w.heap.size w w7:=bn B6 S7
 clear S7
 go_wp2_with fail
 refine (HPT.out _ _ (hB.below bel) (V9.out.below bel)).mono ?_
 rintro e w8 ⟨_,rfl,⟨u,rfl,q5⟩,g8⟩
 obtain ⟨A5,c5,rfl, -, -, -⟩:=q5.open
 obtain ⟨m,hm0⟩ : ∃ x,x=ps.length:=⟨_,rfl⟩
 rw [← hm0] at q5 ⊢
 have V5:=Lib.hid q5
 clear q5
 have S8 : Below w7.heap.size w7 w8:=bn bel g8
 clear g8
 replace HV:=Lib.hid (HV.out.below S8)
 replace HP:=Lib.hid (HP.out.below S8)
 replace V9:=Lib.hid (V9.out.below S8)
 have B8 : Below w.heap.size w w8:=bn B7 S8
 clear S8
 clear V9
 have hm1 : m=0:=by omega
 clear hm0 h0
 subst hm1
 go_wp2
 go_ret
 exact ⟨rfl,bel⟩
set_option maxHeartbeats 4000000 in
set_option maxRecDepth 100000 in
theorem again_at (A : Option Addr) (n cap : Nat) (l : List TV) (x1 x2 x3 x4 : ByteArray) (w : World) (hB : Bw w) (hv : Ts w (.slice A n cap) l)
  (D : List TV) (nd : Nat) (hnd : D.length=nd) (ps : List SV)
  (hn24 : (n : Int)≤24)
  (hf : ∀ w,Ts w (.slice A n cap) l→Calls Tryz.prog 11 #[.slice A n cap,.agg #[.string x1,.string x2,.string x3,.string x4]] w fun e w'=>e=.returned (.bool true)∧Below w.heap.size w w')
  (hcl : ∀ A cap w,Ts w (.slice A n cap) l→Calls Tryz.prog 13 #[.slice A n cap] w (Ret fun r w'=>(∃ A c,r=.slice A n c∧Ts w' (.slice A n c) l)∧Below w.heap.size w w'))
  (h1 : ∀ A cap w,Bw w→Ts w (.slice A n cap) l→Calls Tryz.prog 12 #[.slice A n cap,.agg #[.string x1,.string x2,.string x3,.string x4]] w (SolR D w))
  (hcd : ∀ A cap w,Ts w (.slice A nd cap) D→Calls Tryz.prog 13 #[.slice A nd cap] w (Ret fun r w'=>(∃ A c,r=.slice A nd c∧Ts w' (.slice A nd c) D)∧Below w.heap.size w w'))
  (h2 : ∀ A cap w,Bw w→Ts w (.slice A nd cap) D→Calls Tryz.prog 12 #[.slice A nd cap,.agg #[.string x1,.string x2,.string x3,.string x4]] w (SolR D w))
  (h3 : ∀ A cap w,Bw w→Ts w (.slice A nd cap) D→Calls Tryz.prog 15 #[.slice A nd cap,.agg #[.string x1,.string x2,.string x3,.string x4]] w (SolE w))
  (hp : ∀ v w,Bw w→Ts w v l→Calls Tryz.prog 38 #[v] w (Ret fun r w'=>(∃ u,r=.tuple #[u,.int .i64 0]∧Vs w' u ps)∧Below w.heap.size w w'))
  (h0 : 0<ps.length)
  (hr : ∀ v w,Bw w→Vs w v ps→Calls Tryz.prog 39 #[v,.agg #[.string x1,.string x2,.string x3]] w (Ret fun r w'=>(∃ yo yh,r=.tuple #[.agg #[.string yo,.string yh],.int .i64 0]∧EndsOK n l x1 x2 x3 yo yh)∧Below w.heap.size w w')) :
  Calls Tryz.prog 8 #[.slice A n cap,.agg #[.string x1,.string x2,.string x3,.string x4]] w fun e w'=>e=.returned (.bool true)∧Below w.heap.size w w':=by
 have HV:=Lib.hid hv
 clear hv
 have H0:=Lib.hid (fun w hB=>awake13_walk w hB)
 have HPT:=Lib.hid hp
 clear hp
 have HR:=Lib.hid hr
 clear hr
 have HF:=Lib.hid hf
 clear hf
 have HCL:=Lib.hid hcl
 clear hcl
 have H1:=Lib.hid h1
 clear h1
 have HND:=Lib.hid hnd
 clear hnd
 have HCD:=Lib.hid hcd
 clear hcd
 have H2:=Lib.hid h2
 clear h2
 have H3:=Lib.hid h3
 clear h3
 go_enter Tryz.func8,Tryz.ntmps8
 go_wp2_with fail
 refine (H0.out _ (hB.below bel)).mono ?_
 rintro e w1 ⟨rfl,g1⟩
 have HP:=Lib.hid (show Bk w1 w.heap.size [.string x1,.string x2,.string x3,.string x4] from Bk.below bkk g1)
 have S1:=bn (w:=w) bel g1
 replace HV:=Lib.hid (HV.out.below S1)
 have B1:=S1
 clear S1 g1
 obtain ⟨p0,p1,p2,p3, -⟩:=HP.out.c4
 have hpl:=HP.out.lt
 go_wp2_with fail
 refine (HF.out _ (HV.out.below bel)).mono ?_
 rintro e w2 ⟨rfl,g2⟩
 clear p0 p1 p2 p3 hpl
 have S2 : Below w1.heap.size w1 w2:=bn bel g2
 clear g2
 replace HV:=Lib.hid (HV.out.below S2)
 replace HP:=Lib.hid (HP.out.below S2)
 have B2 : Below w.heap.size w w2:=bn B1 S2
 clear S2
 go_wp2
 obtain ⟨p0,p1,p2,p3, -⟩:=HP.out.c4
 have hpl:=HP.out.lt
 go_region_held3 (fun w'=>w'.cell? ⟨w.heap.size,0,none⟩=some (.string x1)∧w'.cell? ⟨w.heap.size,1,none⟩=some (.string x2)∧w'.cell? ⟨w.heap.size,2,none⟩=some (.string x3)∧w'.cell? ⟨w.heap.size,3,none⟩=some (.string x4)∧Below w2.heap.size w2 w')
  ((refine (fun hb=>⟨bc hb p0,bc hb p1,bc hb p2,bc hb p3,hb⟩) ?_; go_split_ands; repeat (first | with_reducible assumption | (with_reducible exact bd (br _)) | (with_reducible exact br _) | (with_reducible refine bn ?_ g) | (with_reducible refine ba ?_) | (with_reducible refine bd ?_))))
  (first
   | (go_at_call 13; refine (HCL.out _ _ _ (HV.out.below (by go_split_ands; assumption))).mono ?_; rintro e wx1 ⟨_,rfl,⟨A4,c4,rfl,q3⟩,g⟩; have X1 : Below w2.heap.size w2 wx1:=bn (by go_split_ands; assumption) g; have V3:=Lib.hid q3; clear q3)
   | (go_at_call 12; have X1x:=X1; refine (H1.out _ _ _ (hB.below (bn B2 (by go_split_ands; assumption))) (V3.out.below (by repeat (first | with_reducible exact br _ | with_reducible assumption | with_reducible refine ba ?_ | with_reducible refine bd ?_ | (refine below_drewN ?_ _))))).mono ?_; rintro e w3 ⟨AD,cD,rfl,qD,g⟩; have S3 : Below w2.heap.size w2 w3:=bn (by go_split_ands; assumption) g))
 clear V3
 clear p0 p1 p2 p3 hpl
 replace HV:=Lib.hid (HV.out.below S3)
 replace HP:=Lib.hid (HP.out.below S3)
 have B3 : Below w.heap.size w w3:=bn B2 S3
 clear S3
 rw [HND.out] at qD ⊢
 have VD:=Lib.hid qD
 clear qD
 go_wp2
 obtain ⟨p0,p1,p2,p3, -⟩:=HP.out.c4
 have hpl:=HP.out.lt
 go_region_held3 (fun w'=>w'.cell? ⟨w.heap.size,0,none⟩=some (.string x1)∧w'.cell? ⟨w.heap.size,1,none⟩=some (.string x2)∧w'.cell? ⟨w.heap.size,2,none⟩=some (.string x3)∧w'.cell? ⟨w.heap.size,3,none⟩=some (.string x4)∧Below w3.heap.size w3 w')
  ((refine (fun hb=>⟨bc hb p0,bc hb p1,bc hb p2,bc hb p3,hb⟩) ?_; go_split_ands; repeat (first | with_reducible assumption | (with_reducible exact bd (br _)) | (with_reducible exact br _) | (with_reducible refine bn ?_ g) | (with_reducible refine ba ?_) | (with_reducible refine bd ?_))))
  (first
   | (go_at_call 13; refine (HCD.out _ _ _ (VD.out.below (by go_split_ands; assumption))).mono ?_; rintro e wx1 ⟨_,rfl,⟨A4,c4,rfl,q3⟩,g⟩; have X1 : Below w3.heap.size w3 wx1:=bn (by go_split_ands; assumption) g; have V3:=Lib.hid q3; clear q3)
   | (go_at_call 12; have X1x:=X1; refine (H2.out _ _ _ (hB.below (bn B3 (by go_split_ands; assumption))) (V3.out.below (by repeat (first | with_reducible exact br _ | with_reducible assumption | with_reducible refine ba ?_ | with_reducible refine bd ?_ | (refine below_drewN ?_ _))))).mono ?_; rintro e w4 ⟨AB,cB,rfl,qB,g⟩; have S4 : Below w3.heap.size w3 w4:=bn (by go_split_ands; assumption) g))
 clear V3
 clear p0 p1 p2 p3 hpl
 replace HV:=Lib.hid (HV.out.below S4)
 replace HP:=Lib.hid (HP.out.below S4)
 replace VD:=Lib.hid (VD.out.below S4)
 have B4 : Below w.heap.size w w4:=bn B3 S4
 clear S4
 have VB:=Lib.hid qB
 clear qB
 go_wp2
 obtain ⟨p0,p1,p2,p3, -⟩:=HP.out.c4
 have hpl:=HP.out.lt
 go_region_held3 (fun w'=>w'.cell? ⟨w.heap.size,0,none⟩=some (.string x1)∧w'.cell? ⟨w.heap.size,1,none⟩=some (.string x2)∧w'.cell? ⟨w.heap.size,2,none⟩=some (.string x3)∧w'.cell? ⟨w.heap.size,3,none⟩=some (.string x4)∧Below w4.heap.size w4 w')
  ((refine (fun hb=>⟨bc hb p0,bc hb p1,bc hb p2,bc hb p3,hb⟩) ?_; go_split_ands; repeat (first | with_reducible assumption | (with_reducible exact bd (br _)) | (with_reducible exact br _) | (with_reducible refine bn ?_ g) | (with_reducible refine ba ?_) | (with_reducible refine bd ?_))))
  (first
   | (go_at_call 13; refine (HCD.out _ _ _ (VD.out.below (by go_split_ands; assumption))).mono ?_; rintro e wx1 ⟨_,rfl,⟨A4,c4,rfl,q3⟩,g⟩; have X1 : Below w4.heap.size w4 wx1:=bn (by go_split_ands; assumption) g; have V3:=Lib.hid q3; clear q3)
   | (go_at_call 15; have X1x:=X1; refine (H3.out _ _ _ (hB.below (bn B4 (by go_split_ands; assumption))) (V3.out.below (by repeat (first | with_reducible exact br _ | with_reducible assumption | with_reducible refine ba ?_ | with_reducible refine bd ?_ | (refine below_drewN ?_ _))))).mono ?_; rintro e w5 ⟨AC,cC,rfl,g⟩; have S5 : Below w4.heap.size w4 w5:=bn (by go_split_ands; assumption) g))
 clear V3
 clear p0 p1 p2 p3 hpl
 replace HV:=Lib.hid (HV.out.below S5)
 replace HP:=Lib.hid (HP.out.below S5)
 replace VD:=Lib.hid (VD.out.below S5)
 replace VB:=Lib.hid (VB.out.below S5)
 have B5 : Below w.heap.size w w5:=bn B4 S5
 clear S5
 go_wp2_with fail
 refine (refSame_walk _ _ D _ (VD.out.below bel) (VB.out.below bel)).mono ?_
 rintro e w6 ⟨rfl,g6⟩
 have S6 : Below w5.heap.size w5 w6:=bn bel g6
 clear g6
 replace HV:=Lib.hid (HV.out.below S6)
 replace HP:=Lib.hid (HP.out.below S6)
 replace VD:=Lib.hid (VD.out.below S6)
 replace VB:=Lib.hid (VB.out.below S6)
 have B6 : Below w.heap.size w w6:=bn B5 S6
 clear S6
 clear VB VD
 go_wp2_with fail
 refine (HCL.out _ _ _ (HV.out.below bel)).mono ?_
 rintro e w7 ⟨_,rfl,⟨A9,c9,rfl,q9⟩,g7⟩
 have V9:=Lib.hid q9
 clear q9
 have S7 : Below w6.heap.size w6 w7:=bn bel g7
 clear g7
 replace HV:=Lib.hid (HV.out.below S7)
 replace HP:=Lib.hid (HP.out.below S7)
 have B7 : Below w.heap.size w w7:=bn B6 S7
 clear S7
 go_wp2_with fail
 refine (HPT.out _ _ (hB.below bel) (V9.out.below bel)).mono ?_
 rintro e w8 ⟨_,rfl,⟨u,rfl,q5⟩,g8⟩
 obtain ⟨A5,c5,rfl, -, -, -⟩:=q5.open
 obtain ⟨m,hm0⟩ : ∃ x,x=ps.length:=⟨_,rfl⟩
 rw [← hm0] at q5 ⊢
 have V5:=Lib.hid q5
 clear q5
 have S8 : Below w7.heap.size w7 w8:=bn bel g8
 clear g8
 replace HV:=Lib.hid (HV.out.below S8)
 replace HP:=Lib.hid (HP.out.below S8)
 replace V9:=Lib.hid (V9.out.below S8)
 have B8 : Below w.heap.size w w8:=bn B7 S8
 clear S8
 clear V9
 have hm1 : ((m : Int) == 0)=false:=by simpa using (by omega : ¬ m=0)
 clear hm0
 obtain ⟨p0,p1,p2,p3, -⟩:=HP.out.c4
 have hpl:=HP.out.lt
 go_wp2_with fail
 refine (HR.out _ _ (hB.below bel) (V5.out.below bel)).mono ?_
 rintro e w9 ⟨_,rfl,⟨yo,yh,rfl,yl,hs,hb1,ha1,hb2⟩,g9⟩
 have HS:=Lib.hid hs
 have HB1:=Lib.hid hb1
 have HA1:=Lib.hid ha1
 have HB2:=Lib.hid hb2
 clear hs hb1 ha1 hb2 p0 p1 p2 p3 hpl
 have S9 : Below w8.heap.size w8 w9:=bn bel g9
 clear g9
 replace HV:=Lib.hid (HV.out.below S9)
 replace HP:=Lib.hid (HP.out.below S9)
 replace V5:=Lib.hid (V5.out.below S9)
 have B9 : Below w.heap.size w w9:=bn B8 S9
 clear S9
 clear V5
 go_wp2_with fail
 refine (HS.out _ (hB.below bel)).mono ?_
 rintro e w10 ⟨rfl,g10⟩
 have HI:=Lib.hid (show Bk w10 w9.heap.size [.string yo,.string yh] from Bk.below bkk g10)
 have S10 : Below w9.heap.size w9 w10:=bn bel g10
 clear g10
 replace HV:=Lib.hid (HV.out.below S10)
 replace HP:=Lib.hid (HP.out.below S10)
 have B10 : Below w.heap.size w w10:=bn B9 S10
 clear S10
 go_wp2
 obtain ⟨p0,p1,p2,p3, -⟩:=HP.out.c4
 have hpl:=HP.out.lt
 obtain ⟨i0,i1, -, -⟩:=HI.out.c2
 have hil:=HI.out.lt
 go_region_held3 (fun w'=>w'.cell? ⟨w.heap.size,0,none⟩=some (.string x1)∧w'.cell? ⟨w.heap.size,1,none⟩=some (.string x2)∧w'.cell? ⟨w.heap.size,2,none⟩=some (.string x3)∧w'.cell? ⟨w.heap.size,3,none⟩=some (.string x4)∧w'.cell? ⟨w9.heap.size,1,none⟩=some (.string yh)∧Below w10.heap.size w10 w')
  ((refine (fun hb=>⟨bc hb p0,bc hb p1,bc hb p2,bc hb p3,bc hb i1,hb⟩) ?_; go_split_ands; repeat (first | with_reducible assumption | (with_reducible exact bd (br _)) | (with_reducible exact br _) | (with_reducible refine bn ?_ g) | (with_reducible refine ba ?_) | (with_reducible refine bd ?_))))
  (first
   | (go_at_call 13; refine (HCL.out _ _ _ (HV.out.below (by go_split_ands; assumption))).mono ?_; rintro e wx1 ⟨_,rfl,⟨A4,c4,rfl,q3⟩,g⟩; have X1 : Below w10.heap.size w10 wx1:=bn (by go_split_ands; assumption) g; have V3:=Lib.hid q3; clear q3)
   | (go_at_call 12; have X1x:=X1; refine (HB1.out _ _ _ (hB.below (bn B10 (by go_split_ands; assumption))) (V3.out.below (by repeat (first | with_reducible exact br _ | with_reducible assumption | with_reducible refine ba ?_ | with_reducible refine bd ?_ | (refine below_drewN ?_ _))))).mono ?_; rintro e w11 ⟨AE,cE,rfl,qE,g⟩; have S11 : Below w10.heap.size w10 w11:=bn (by go_split_ands; assumption) g))
 clear V3
 clear i0 i1 hil
 clear p0 p1 p2 p3 hpl
 replace HV:=Lib.hid (HV.out.below S11)
 replace HP:=Lib.hid (HP.out.below S11)
 replace HI:=Lib.hid (HI.out.below S11)
 have B11 : Below w.heap.size w w11:=bn B10 S11
 clear S11
 have VE:=Lib.hid qE
 clear qE
 clear HI
 go_wp2
 obtain ⟨p0,p1,p2,p3, -⟩:=HP.out.c4
 have hpl:=HP.out.lt
 go_region_held3 (fun w'=>w'.cell? ⟨w.heap.size,0,none⟩=some (.string x1)∧w'.cell? ⟨w.heap.size,1,none⟩=some (.string x2)∧w'.cell? ⟨w.heap.size,2,none⟩=some (.string x3)∧w'.cell? ⟨w.heap.size,3,none⟩=some (.string x4)∧Below w11.heap.size w11 w')
  ((refine (fun hb=>⟨bc hb p0,bc hb p1,bc hb p2,bc hb p3,hb⟩) ?_; go_split_ands; repeat (first | with_reducible assumption | (with_reducible exact bd (br _)) | (with_reducible exact br _) | (with_reducible refine bn ?_ g) | (with_reducible refine ba ?_) | (with_reducible refine bd ?_))))
  (first
   | (go_at_call 13; refine (HCL.out _ _ _ (HV.out.below (by go_split_ands; assumption))).mono ?_; rintro e wx1 ⟨_,rfl,⟨A4,c4,rfl,q3⟩,g⟩; have X1 : Below w11.heap.size w11 wx1:=bn (by go_split_ands; assumption) g; have V3:=Lib.hid q3; clear q3)
   | (go_at_call 15; have X1x:=X1; refine (HA1.out _ _ _ (hB.below (bn B11 (by go_split_ands; assumption))) (V3.out.below (by repeat (first | with_reducible exact br _ | with_reducible assumption | with_reducible refine ba ?_ | with_reducible refine bd ?_ | (refine below_drewN ?_ _))))).mono ?_; rintro e w12 ⟨AX,cX,rfl,qX,g⟩; have S12 : Below w11.heap.size w11 w12:=bn (by go_split_ands; assumption) g))
 clear V3
 clear p0 p1 p2 p3 hpl
 replace HV:=Lib.hid (HV.out.below S12)
 replace HP:=Lib.hid (HP.out.below S12)
 replace VE:=Lib.hid (VE.out.below S12)
 have B12 : Below w.heap.size w w12:=bn B11 S12
 clear S12
 have VX:=Lib.hid qX
 clear qX
 go_wp2
 obtain ⟨p0,p1,p2,p3, -⟩:=HP.out.c4
 have hpl:=HP.out.lt
 go_region_held3 (fun w'=>w'.cell? ⟨w.heap.size,0,none⟩=some (.string x1)∧w'.cell? ⟨w.heap.size,1,none⟩=some (.string x2)∧w'.cell? ⟨w.heap.size,2,none⟩=some (.string x3)∧w'.cell? ⟨w.heap.size,3,none⟩=some (.string x4)∧Below w12.heap.size w12 w')
  ((refine (fun hb=>⟨bc hb p0,bc hb p1,bc hb p2,bc hb p3,hb⟩) ?_; go_split_ands; repeat (first | with_reducible assumption | (with_reducible exact bd (br _)) | (with_reducible exact br _) | (with_reducible refine bn ?_ g) | (with_reducible refine ba ?_) | (with_reducible refine bd ?_))))
  (first
   | (go_at_call 13; refine (HCL.out _ _ _ (HV.out.below (by go_split_ands; assumption))).mono ?_; rintro e wx1 ⟨_,rfl,⟨A4,c4,rfl,q3⟩,g⟩; have X1 : Below w12.heap.size w12 wx1:=bn (by go_split_ands; assumption) g; have V3:=Lib.hid q3; clear q3)
   | (go_at_call 12; have X1x:=X1; refine (HB2.out _ _ _ (hB.below (bn B12 (by go_split_ands; assumption))) (V3.out.below (by repeat (first | with_reducible exact br _ | with_reducible assumption | with_reducible refine ba ?_ | with_reducible refine bd ?_ | (refine below_drewN ?_ _))))).mono ?_; rintro e w13 ⟨AY,cY,rfl,g⟩; have S13 : Below w12.heap.size w12 w13:=bn (by go_split_ands; assumption) g))
 clear V3
 clear p0 p1 p2 p3 hpl
 replace HV:=Lib.hid (HV.out.below S13)
 replace HP:=Lib.hid (HP.out.below S13)
 replace VE:=Lib.hid (VE.out.below S13)
 replace VX:=Lib.hid (VX.out.below S13)
 have B13 : Below w.heap.size w w13:=bn B12 S13
 clear S13
 go_wp2_with fail
 refine (refSame_walk _ _ l _ (VE.out.below bel) (HV.out.below bel)).mono ?_
 rintro e w14 ⟨rfl,g14⟩
 have S14 : Below w13.heap.size w13 w14:=bn bel g14
 clear g14
 replace HV:=Lib.hid (HV.out.below S14)
 replace HP:=Lib.hid (HP.out.below S14)
 replace VE:=Lib.hid (VE.out.below S14)
 replace VX:=Lib.hid (VX.out.below S14)
 have B14 : Below w.heap.size w w14:=bn B13 S14
 clear S14
 clear VE
 go_wp2_with fail
 refine (refSame_walk _ _ l _ (VX.out.below bel) (HV.out.below bel)).mono ?_
 rintro e w15 ⟨rfl,g15⟩
 have S15 : Below w14.heap.size w14 w15:=bn bel g15
 clear g15
 replace HV:=Lib.hid (HV.out.below S15)
 replace HP:=Lib.hid (HP.out.below S15)
 replace VX:=Lib.hid (VX.out.below S15)
 have B15 : Below w.heap.size w w15:=bn B14 S15
 clear S15
 clear VX
 go_wp2
 go_ret
 exact ⟨rfl,bel⟩
end Go.Proofs.YtopfedbhkfdjkaaGreatDoor

/- rows: planes, numbers and rows of numbers that came in, opened. -/
set_option maxRecDepth 100000
namespace Go.Proofs.YtopfedbhkfdjkaaGreatDoor
open Go Go.ChangeShapes Go.WideShapes Go.ChangeAt Go.RowKit Go.Joins Go.Deep
open Go.ChangeMaps (open_string shut_string)
section
variable {H : Type} {enc : TypeId × Value→H} {W : World} {v : Value} {d : DataW H} {p : List MemPlace}
theorem open_plane {r : Reach} {b0 : Nat} (hval : Value.okWide Tryz.prog W r b0 28 v) (h : DataW.Trod enc Tryz.prog W 0 (fun _=>true) true 28 v d p) :
  ∃ (s : SV) (c : ByteArray),v=.agg #[.string s.x,.string s.y,.string s.z,.string c]∧c.size≤maxLen:=by
 obtain ⟨cs,rfl,hsz⟩:=okWide_struct Tryz.underlying28 hval
 obtain ⟨fuel,hf⟩:=h
 obtain ⟨y0,y1,n,hx,hl,h0,h1⟩:=trod_struct2 Tryz.underlying28 hf
 have e4 : Tryz.prog.cellsOf 28=4:=by kernel_rfl
 have e1 : Tryz.prog.cellsOf 24=1:=by kernel_rfl
 rw [e4] at hsz
 obtain ⟨l⟩:=cs
 simp only [Value.cells] at h0 h1
 obtain ⟨s,hs⟩:=open_vec h0
 obtain ⟨c,hc, -,hm⟩:=DataW.trod_string Tryz.underlying24 h1
 match l,hsz with
 | [a0,a1,a2,a3],_ =>
  have q1 : [a0,a1,a2]=s.cells:=by rw [← hs,cells_vec]; rfl
  have q2 : [a3]=[Value.string c]:=by rw [← hc,e1]; rfl
  have q3 : s.cells=[.string s.x,.string s.y,.string s.z]:=rfl
  rw [q3] at q1
  simp only [List.cons.injEq,and_true] at q1 q2
  obtain ⟨rfl,rfl,rfl⟩:=q1
  subst q2
  exact ⟨s,c,rfl,hm⟩
end
end Go.Proofs.YtopfedbhkfdjkaaGreatDoor
