/- Solids in plain Lean: closedness by counts; turned, joined, moved and mirrored solids; prisms are closed; a solid without one of its triangles is open. No program in sight. -/
import Derived.Test.YtbnbaokamccmjaaGreatDoorEA
import Derived.Test.YtbnbaokamccmjaaGreatDoorEC
import Derived.Test.YtbnbaokamccmjaaGreatDoorE9
import Derived.Deep.Slices
import Derived.Deep.Fields
import Derived.OpenShut
import Derived.Carry
import Derived.Test.YtbnbaokamccmjaaGreatDoorCards
import Derived.Test.YtbnbaokamccmjaaGreatDoorTie
import Derived.ProofKit
import Derived.Deep.DeepHandedRow
import Derived.Lib.LaidTab
import Derived.Lib.SmallJoins
import Derived.Shelf.Vars
import Derived.SevenTiedAt
import Derived.Deep.MidRow
import Derived.Deep.RegionLaw
import Derived.Lib.SliceRun
set_option linter.unusedVariables false
set_option linter.unusedSimpArgs false
namespace Go.Proofs.YtbnbaokamccmjaaGreatDoor
open Go Go.RowKit
section
variable {α β : Type}
theorem mem_tpts_iff {l : List (Tr α)} {y : α} : y ∈ tpts l↔∃ t ∈ l,y=t.a∨y=t.b∨y=t.c:=by
 unfold tpts
 rw [List.mem_flatMap]
 constructor
 ·rintro ⟨t,ht,h⟩
  simp only [Tr.pts,List.mem_cons,List.not_mem_nil,or_false] at h
  exact ⟨t,ht,h⟩
 ·rintro ⟨t,ht,h⟩
  exact ⟨t,ht,by simp only [Tr.pts,List.mem_cons,List.not_mem_nil,or_false]; exact h⟩
variable [DecidableEq α] [DecidableEq β]
/-! ### Prisms -/
/-! ### Points -/
end
/-! ### Moved and mirrored solids -/
def leT (L : List (Tr V3)) (k : Nat) : Prop:=∀ t ∈ L,t.a.le k∧t.b.le k∧t.c.le k
end Go.Proofs.YtbnbaokamccmjaaGreatDoor

/- Solids in plain Lean: neither the order of the triangles nor which point of a triangle is the first one matters for closedness, convexity and shells. No program in sight. -/
namespace Go.Proofs.YtbnbaokamccmjaaGreatDoor
open Go Go.RowKit
section
variable {α : Type}
variable [DecidableEq α]
theorem nodup_le : ∀ (A B : List α),A.Nodup→(∀ x ∈ A,x ∈ B)→A.length≤B.length
 | [],_,_,_=>Nat.zero_le _
 | a :: A,B,h,hs=>by
  rw [List.nodup_cons] at h
  have hb : a ∈ B:=hs a (by simp)
  have ih:=nodup_le A (B.erase a) h.2 (fun x hx=>by
   have hne : x≠a:=fun e=>h.1 (e ▸ hx)
   exact (List.mem_erase_of_ne hne).2 (hs x (by simp [hx])))
  rw [List.length_erase_of_mem hb] at ih
  have : 0<B.length:=List.length_pos_of_mem hb
  simp only [List.length_cons]
  omega
/-! ### What the roots say -/
structure RI (R : List (α × α)) : Prop where
 nodup : (R.map (·.1)).Nodup
 root : ∀ x ∈ R.map (·.1),rootOf R x ∈ R.map (·.1)∧rootOf R (rootOf R x)=rootOf R x
theorem rootOf_not {R : List (α × α)} {x : α} (h : x ∉ R.map (·.1)) : rootOf R x=x:=by
 unfold rootOf
 rw [(kget_none_iff R x).2 h]
 rfl
theorem RI.twice {R : List (α × α)} (h : RI R) (x : α) : rootOf R (rootOf R x)=rootOf R x:=by
 by_cases hx : x ∈ R.map (·.1)
 ·exact (h.root x hx).2
 ·rw [rootOf_not hx,rootOf_not hx]
theorem mem_touch_iff {R : List (α × α)} {x z : α} : z ∈ (touch R x).map (·.1)↔z ∈ R.map (·.1)∨z=x:=by
 by_cases h : x ∈ R.map (·.1)
 ·rw [touch_of_mem h]
  exact ⟨.inl,fun h2=>h2.elim id fun e=>e ▸ h⟩
 ·rw [touch_of_not h,List.map_append,List.mem_append]
  simp
theorem RI.touch {R : List (α × α)} (h : RI R) (x : α) : RI (touch R x):=by
 by_cases hx : x ∈ R.map (·.1)
 ·rw [touch_of_mem hx]; exact h
 ·refine ⟨?_,fun z hz=>?_⟩
  ·rw [touch_of_not hx,List.map_append,List.nodup_append]
   refine ⟨h.nodup,by simp,fun a ha b hb=>?_⟩
   simp at hb
   subst hb
   exact fun e=>hx (e ▸ ha)
  ·rw [rootOf_touch,rootOf_touch]
   refine ⟨mem_touch_iff.2 ?_,h.twice z⟩
   rcases mem_touch_iff.1 hz with h1 | h1
   ·exact .inl (h.root z h1).1
   ·rw [h1,rootOf_not hx]
    exact .inr rfl
theorem RI.reach {R : List (α × α)} (h : RI R) (x y : α) : rootOf R x ∈ (_root_.Go.Proofs.YtbnbaokamccmjaaGreatDoor.touch (_root_.Go.Proofs.YtbnbaokamccmjaaGreatDoor.touch R x) y).map (·.1)∧rootOf R y ∈ (_root_.Go.Proofs.YtbnbaokamccmjaaGreatDoor.touch (_root_.Go.Proofs.YtbnbaokamccmjaaGreatDoor.touch R x) y).map (·.1):=by
 have key : ∀ z,(z=x∨z=y)→rootOf R z ∈ (_root_.Go.Proofs.YtbnbaokamccmjaaGreatDoor.touch (_root_.Go.Proofs.YtbnbaokamccmjaaGreatDoor.touch R x) y).map (·.1):=fun z hz=>by
  rw [mem_touch_iff,mem_touch_iff]
  by_cases h1 : z ∈ R.map (·.1)
  ·exact .inl (.inl (h.root z h1).1)
  ·rw [rootOf_not h1]
   rcases hz with rfl | rfl
   ·exact .inl (.inr rfl)
   ·exact .inr rfl
 exact ⟨key x (.inl rfl),key y (.inr rfl)⟩
theorem unite_keys (R : List (α × α)) (x y : α) : (unite R x y).map (·.1)=(touch (touch R x) y).map (·.1):=by
 unfold unite
 rw [graft_keys]
theorem mem_unite {R : List (α × α)} {x y z : α} : z ∈ (unite R x y).map (·.1)↔z ∈ R.map (·.1)∨z=x∨z=y:=by
 rw [unite_keys,mem_touch_iff,mem_touch_iff,or_assoc]
theorem rootOf_unite {R : List (α × α)} (h : RI R) (x y z : α) : rootOf (unite R x y) z=if rootOf R z=rootOf R x then rootOf R y else rootOf R z:=by
 by_cases hz : z ∈ (touch (touch R x) y).map (·.1)
 ·unfold unite
  rw [rootOf_graft hz,rootOf_touch,rootOf_touch,rootOf_touch,rootOf_touch,rootOf_touch]
 ·have h1 : z ∉ R.map (·.1):=fun h2=>hz (by rw [mem_touch_iff,mem_touch_iff]; exact .inl (.inl h2))
  have h2 : rootOf R z≠rootOf R x:=by
   rw [rootOf_not h1]
   intro e
   exact hz (e ▸ (h.reach x y).1)
  rw [if_neg h2,rootOf_not h1,rootOf_not (by rw [unite_keys]; exact hz)]
theorem RI.unite {R : List (α × α)} (h : RI R) (x y : α) : RI (unite R x y):=by
 refine ⟨by rw [unite_keys]; exact ((h.touch x).touch y).nodup,fun z hz=>?_⟩
 rw [rootOf_unite h]
 have hr:=h.reach x y
 by_cases h1 : rootOf R z=rootOf R x
 ·rw [if_pos h1]
  refine ⟨by rw [unite_keys]; exact hr.2, ?_⟩
  rw [rootOf_unite h,h.twice]
  split<;>rfl
 ·rw [if_neg h1]
  refine ⟨?_, ?_⟩
  ·rw [unite_keys]
   rw [unite_keys] at hz
   have:=((h.touch x).touch y).root z hz
   rw [rootOf_touch,rootOf_touch] at this
   exact this.1
  ·rw [rootOf_unite h,h.twice,if_neg h1]
structure SI (l : List (Tr α)) (R : List (α × α)) : Prop where
 ri : RI R
 keys : ∀ z,z ∈ R.map (·.1)↔z ∈ tpts l
 sound : ∀ g : α→α,(∀ t ∈ l,g t.b=g t.a∧g t.c=g t.a)→∀ z,g (rootOf R z)=g z
 comp : ∀ t ∈ l,rootOf R t.b=rootOf R t.a∧rootOf R t.c=rootOf R t.a
theorem SI.nil : SI ([] : List (Tr α)) []:=⟨⟨by simp,by simp⟩,fun z=>by simp [tpts],fun g _ z=>rfl,by simp⟩
theorem unite_sound {R : List (α × α)} (h : RI R) {g : α→α} (hs : ∀ z,g (rootOf R z)=g z) {x y : α} (e : g x=g y) (z : α) : g (rootOf (unite R x y) z)=g z:=by
 rw [rootOf_unite h]
 split
 ·rename_i h1
  rw [hs y,← e,← hs x,← h1,hs z]
 ·exact hs z
theorem unite_same {R : List (α × α)} (h : RI R) (x y : α) : rootOf (unite R x y) x=rootOf (unite R x y) y:=by
 rw [rootOf_unite h,rootOf_unite h,if_pos rfl]
 split<;>rfl
theorem unite_keeps {R : List (α × α)} (h : RI R) (x y : α) {p q : α} (e : rootOf R p=rootOf R q) : rootOf (unite R x y) p=rootOf (unite R x y) q:=by
 rw [rootOf_unite h,rootOf_unite h,e]
theorem SI.step {l : List (Tr α)} {R : List (α × α)} (h : SI l R) (t : Tr α) : SI (l++[t]) (shellStep R t):=by
 have h1:=h.ri.unite t.b t.a
 have h2:=h1.unite t.c t.a
 refine ⟨h2,fun z=>?_,fun g hg z=>?_,fun u hu=>?_⟩
 ·unfold shellStep
  rw [mem_unite,mem_unite,h.keys,mem_tpts_iff,mem_tpts_iff]
  constructor
  ·rintro ((⟨u,hu,e⟩ | e | e) | e | e)
   ·exact ⟨u,by simp [hu],e⟩
   ·exact ⟨t,by simp,.inr (.inl e)⟩
   ·exact ⟨t,by simp,.inl e⟩
   ·exact ⟨t,by simp,.inr (.inr e)⟩
   ·exact ⟨t,by simp,.inl e⟩
  ·rintro ⟨u,hu,e⟩
   rw [List.mem_append] at hu
   rcases hu with hu | hu
   ·exact .inl (.inl ⟨u,hu,e⟩)
   ·simp at hu
    subst hu
    rcases e with e | e | e
    ·exact .inr (.inr e)
    ·exact .inl (.inr (.inl e))
    ·exact .inr (.inl e)
 ·have ht:=hg t (by simp)
  exact unite_sound h1 (unite_sound h.ri (h.sound g fun u hu=>hg u (by simp [hu])) ht.1) ht.2 z
 ·rw [List.mem_append] at hu
  unfold shellStep
  rcases hu with hu | hu
  ·obtain ⟨e1,e2⟩:=h.comp u hu
   exact ⟨unite_keeps h1 _ _ (unite_keeps h.ri _ _ e1),unite_keeps h1 _ _ (unite_keeps h.ri _ _ e2)⟩
  ·simp at hu
   subst hu
   exact ⟨unite_keeps h1 _ _ (unite_same h.ri _ _),unite_same h1 _ _⟩
theorem SI.all : ∀ (l done : List (Tr α)) (R : List (α × α)),SI done R→SI (done++l) (l.foldl shellStep R)
 | [],done,R,h=>by rw [List.append_nil]; exact h
 | t :: l,done,R,h=>by
  have:=SI.all l (done++[t]) (shellStep R t) (h.step t)
  rw [List.append_assoc] at this
  exact this
theorem si_shellR (l : List (Tr α)) : SI l (shellR l):=SI.all l [] [] SI.nil
def rootsL (l : List (Tr α)) : List α:=((shellR l).map (·.1)).filter fun x=>decide (rootOf (shellR l) x=x)
theorem shells_roots (l : List (Tr α)) : shellsL l=(rootsL l).length:=by
 have h:=(si_shellR l).ri
 unfold shellsL rootsL
 rw [← List.countP_eq_length_filter,List.countP_map]
 apply List.countP_congr
 intro p hp
 have : rootOf (shellR l) p.1=p.2:=by
  unfold rootOf
  rw [(kget_iff h.nodup p.1 p.2).2 hp]
  rfl
 simp only [Function.comp,this,decide_eq_true_eq]
 exact ⟨fun e=>e.symm,fun e=>e.symm⟩
end
end Go.Proofs.YtbnbaokamccmjaaGreatDoor

/- law of chapter 12: vec, awake (the walk). -/
namespace Go.Proofs.YtbnbaokamccmjaaGreatDoor
open Go Go.RowKit
theorem vec_walk (x y z : ByteArray) (w : World) :
  Calls Tryz.prog 46 #[.string x,.string y,.string z] w fun e w'=>e=.returned (.agg #[.string x,.string y,.string z])∧Below w.heap.size w w':=by
 go_enter Tryz.func46,Tryz.ntmps46
 go_wp2
 refine bodyPost_ret (v:=.agg #[.string x,.string y,.string z]) (by simp [results,Tryz.results46,go_sem, *]) rfl ⟨(by first | rfl | rw [hI]),bel⟩
theorem Ts.tail {w : World} {b off n cap : Nat} {l : List TV} (h : Ts w (.slice (some ⟨b,off,none⟩) (n+1) cap) l) : Ts w (.slice (some ⟨b,off+9,none⟩) n (cap - 1)) l.tail:=by
 obtain ⟨A,cap',hv,hn,hc,hcell⟩:=h.open
 simp only [Value.slice.injEq] at hv
 obtain ⟨hA,hl,rfl⟩:=hv
 obtain ⟨b2,off2,hA2,hcl⟩:=hcell (by omega)
 rw [hA2] at hA
 simp only [Option.some.injEq,Addr.mk.injEq,and_true] at hA
 obtain ⟨rfl,rfl⟩:=hA
 have hlt : l.tail.length=n:=by rw [List.length_tail]; omega
 refine ⟨tcs_length _,some ⟨b,off+9,none⟩,cap - 1,by rw [hlt],by omega,by unfold maxLen; omega,fun h0=>⟨b,off+9,rfl,fun j u hu=>?_⟩⟩
 obtain ⟨_,A3,cap3,hv3,_,_,h3⟩:=h
 obtain ⟨b3,off3,hA3,hc3⟩:=h3 (by omega)
 simp only [Value.slice.injEq] at hv3
 rw [← hv3.1] at hA3
 simp only [Option.some.injEq,Addr.mk.injEq,and_true] at hA3
 obtain ⟨rfl,rfl⟩:=hA3
 have h4:=hc3 (j+9) u (by
  cases l with
  | nil=>simp at hl
  | cons t l =>
   have e : tcs (t :: l)=TV.cells t++tcs l:=rfl
   have e9 : (TV.cells t).length=9:=rfl
   rw [e,List.getElem?_append_right (by omega),e9,Nat.add_sub_cancel]
   exact hu)
 rw [show off+9+j=off + (j+9) by omega]
 exact h4
set_option maxHeartbeats 4000000 in
set_option maxRecDepth 100000 in
theorem awake_at (b m j r t b1 f : List TV) (ps : List SV) (w : World) (hB : Bw w) (n12 : b.length=12) (m12 : m.length=12) (j24 : j.length=24) (r12 : r.length=12) (t12 : t.length=12) (f1 : f.length=1) (p8 : ps.length=8) (hb1 : b1=b.tail)
  (h1 : ∀ w,Bw w→Calls Tryz.prog 17 #[.agg #[.string ⟨#[48]⟩,.string ⟨#[48]⟩,.string ⟨#[48]⟩],.agg #[.string ⟨#[50]⟩,.string ⟨#[49]⟩,.string ⟨#[49]⟩]] w (Ret fun r w'=>(∃ u,r=.tuple #[u,.int .i64 0]∧Ts w' u b)∧Below w.heap.size w w'))
  (h2 : ∀ v w,Bw w→Ts w v b→Calls Tryz.prog 35 #[v] w (Ret fun r w'=>(∃ u,r=.tuple #[u,.int .i64 0]∧Vs w' u ps)∧Below w.heap.size w w'))
  (h3 : ∀ v w,Bw w→Ts w v b→Calls Tryz.prog 31 #[v] w fun e w'=>e=.returned (.tuple #[.int .i64 1,.int .i64 0])∧Below w.heap.size w w')
  (h4 : ∀ v w,Bw w→Ts w v b→Calls Tryz.prog 30 #[v] w fun e w'=>e=.returned (.tuple #[.bool true,.int .i64 0])∧Below w.heap.size w w')
  (h5 : ∀ v w,Bw w→Ts w v b→Calls Tryz.prog 21 #[v,.agg #[.string ⟨#[53]⟩,.string ⟨#[48]⟩,.string ⟨#[48]⟩]] w (Ret fun r w'=>(∃ u,r=.tuple #[u,.int .i64 0]∧Ts w' u m)∧Below w.heap.size w w'))
  (h6 : ∀ v1 v2 w,Bw w→Ts w v1 b→Ts w v2 m→Calls Tryz.prog 28 #[v1,v2] w (Ret fun r w'=>(∃ u,r=.tuple #[u,.int .i64 0]∧Ts w' u j)∧Below w.heap.size w w'))
  (h7 : ∀ v w,Bw w→Ts w v j→Calls Tryz.prog 31 #[v] w fun e w'=>e=.returned (.tuple #[.int .i64 2,.int .i64 0])∧Below w.heap.size w w')
  (h8 : ∀ v w,Bw w→Ts w v b→Calls Tryz.prog 24 #[v] w (Ret fun q w'=>(∃ u,q=.tuple #[u,.int .i64 0]∧Ts w' u r)∧Below w.heap.size w w'))
  (h9 : ∀ v w,Bw w→Ts w v b→Calls Tryz.prog 26 #[v] w (Ret fun q w'=>(∃ u,q=.tuple #[u,.int .i64 0]∧Ts w' u t)∧Below w.heap.size w w'))
  (h10 : ∀ p w,Bw w→Bk w p [.string ⟨#[48]⟩,.string ⟨#[48]⟩,.string ⟨#[48]⟩,.string ⟨#[49]⟩,.string ⟨#[48]⟩,.string ⟨#[48]⟩,.string ⟨#[48]⟩,.string ⟨#[49]⟩,.string ⟨#[48]⟩]→Calls Tryz.prog 12 #[.slice (some ⟨p,0,none⟩) 3 3] w (Ret fun q w'=>(∃ u,q=.tuple #[u,.int .i64 0]∧Ts w' u f)∧Below w.heap.size w w'))
  (h11 : ∀ v w,Bw w→Ts w v b→Calls Tryz.prog 32 #[v] w fun e w'=>e=.returned (.int .i64 0)∧Below w.heap.size w w')
  (h12 : ∀ v w,Bw w→Ts w v b1→Calls Tryz.prog 32 #[v] w fun e w'=>e=.returned (.int .i64 17)∧Below w.heap.size w w') :
  Calls Tryz.prog 10 #[] w fun e w'=>e=.returned (.bool true)∧Below w.heap.size w w':=by
 have H1:=Lib.hid h1
 have H2:=Lib.hid h2
 have H3:=Lib.hid h3
 have H4:=Lib.hid h4
 have H5:=Lib.hid h5
 have H6:=Lib.hid h6
 have H7:=Lib.hid h7
 have H8:=Lib.hid h8
 have H9:=Lib.hid h9
 have H10:=Lib.hid h10
 have H11:=Lib.hid h11
 have H12:=Lib.hid h12
 have HB1:=Lib.hid hb1
 have N12:=Lib.hid n12
 have M12:=Lib.hid m12
 have J24:=Lib.hid j24
 have R12:=Lib.hid r12
 have T12:=Lib.hid t12
 have F1:=Lib.hid f1
 have P8:=Lib.hid p8
 clear h1 h2 h3 h4 h5 h6 h7 h8 h9 h10 h11 h12 hb1 n12 m12 j24 r12 t12 f1 p8
 go_enter Tryz.func10,Tryz.ntmps10
 go_wp2_with fail
 refine (vec_walk _ _ _ _).mono ?_
 rintro e w1 ⟨rfl,g1⟩
 have B1:=bn (w:=w) bel g1
 clear g1
 go_wp2_with fail
 refine (vec_walk _ _ _ _).mono ?_
 rintro e w2 ⟨rfl,g2⟩
 have B2:=bn (w:=w) bel g2
 clear g2
 go_wp2_with fail
 refine (H1.out _ (hB.below bel)).mono ?_
 rintro e w3 ⟨_,rfl,⟨u,rfl,hu⟩,g3⟩
 have B3:=bn (w:=w) bel g3
 clear g3
 obtain ⟨A,cap,rfl,hn,hc,hcell⟩:=hu.open
 obtain ⟨bb,off,rfl, -⟩:=hcell (by rw [N12.out]; omega)
 rw [N12.out] at hu hn ⊢
 have HU:=Lib.hid hu
 have hn12 : 12≤cap:=hn
 clear hu hcell hn
 go_wp2_with fail
 refine (H2.out _ _ (hB.below bel) HU.out).mono ?_
 rintro e w4 ⟨_,rfl,⟨u,rfl,hu⟩,g4⟩
 have G4 : Below w3.heap.size w3 w4:=g4
 have B4:=bn (w:=w) bel g4
 clear g4
 obtain ⟨A4,cap4,rfl, -, -, -⟩:=hu.open
 rw [P8.out] at hu ⊢
 clear hu
 go_wp2_with fail
 refine (H3.out _ _ (hB.below bel) (HU.out.below G4)).mono ?_
 rintro e w5 ⟨rfl,g5⟩
 have G5 : Below w3.heap.size w3 w5:=bn G4 g5
 have B5:=bn (w:=w) bel g5
 clear g5
 go_wp2_with fail
 refine (H4.out _ _ (hB.below bel) (HU.out.below G5)).mono ?_
 rintro e w6 ⟨rfl,g6⟩
 have G6 : Below w3.heap.size w3 w6:=bn G5 g6
 have B6:=bn (w:=w) bel g6
 clear g6
 go_wp2_with fail
 refine (vec_walk _ _ _ _).mono ?_
 rintro e w7 ⟨rfl,g7⟩
 have G7 : Below w3.heap.size w3 w7:=bn G6 g7
 have B7:=bn (w:=w) bel g7
 clear g7
 go_wp2_with fail
 refine (H5.out _ _ (hB.below bel) (HU.out.below G7)).mono ?_
 rintro e w8 ⟨_,rfl,⟨u,rfl,hu⟩,g8⟩
 have G8 : Below w3.heap.size w3 w8:=bn G7 g8
 have B8:=bn (w:=w) bel g8
 clear g8
 obtain ⟨A8,cap8,rfl, -, -, -⟩:=hu.open
 rw [M12.out] at hu ⊢
 have HM:=Lib.hid hu
 clear hu
 go_wp2_with fail
 refine (H6.out _ _ _ (hB.below bel) (HU.out.below G8) HM.out).mono ?_
 rintro e w9 ⟨_,rfl,⟨u,rfl,hu⟩,g9⟩
 have G9 : Below w3.heap.size w3 w9:=bn G8 g9
 have B9:=bn (w:=w) bel g9
 clear g9
 obtain ⟨A9,cap9,rfl, -, -, -⟩:=hu.open
 rw [J24.out] at hu ⊢
 have HJ:=Lib.hid hu
 clear hu HM
 go_wp2_with fail
 refine (H7.out _ _ (hB.below bel) HJ.out).mono ?_
 rintro e w10 ⟨rfl,g10⟩
 have G10 : Below w3.heap.size w3 w10:=bn G9 g10
 have B10:=bn (w:=w) bel g10
 clear g10
 clear HJ
 go_wp2_with fail
 refine (H8.out _ _ (hB.below bel) (HU.out.below G10)).mono ?_
 rintro e w11 ⟨_,rfl,⟨u,rfl,hu⟩,g11⟩
 have G11 : Below w3.heap.size w3 w11:=bn G10 g11
 have B11:=bn (w:=w) bel g11
 clear g11
 obtain ⟨A11,cap11,rfl, -, -, -⟩:=hu.open
 rw [R12.out] at hu ⊢
 clear hu
 go_wp2_with fail
 refine (H9.out _ _ (hB.below bel) (HU.out.below G11)).mono ?_
 rintro e w12 ⟨_,rfl,⟨u,rfl,hu⟩,g12⟩
 have G12 : Below w3.heap.size w3 w12:=bn G11 g12
 have B12:=bn (w:=w) bel g12
 clear g12
 obtain ⟨A12,cap12,rfl, -, -, -⟩:=hu.open
 rw [T12.out] at hu ⊢
 clear hu
 go_wp2_with fail
 refine (vec_walk _ _ _ _).mono ?_
 rintro e w13 ⟨rfl,g13⟩
 have G13 : Below w3.heap.size w3 w13:=bn G12 g13
 have B13:=bn (w:=w) bel g13
 clear g13
 go_wp2_with fail
 refine (vec_walk _ _ _ _).mono ?_
 rintro e w14 ⟨rfl,g14⟩
 have G14 : Below w3.heap.size w3 w14:=bn G13 g14
 have B14:=bn (w:=w) bel g14
 clear g14
 go_wp2_with fail
 refine (vec_walk _ _ _ _).mono ?_
 rintro e w15 ⟨rfl,g15⟩
 have G15 : Below w3.heap.size w3 w15:=bn G14 g15
 have B15:=bn (w:=w) bel g15
 clear g15
 go_wp2_with fail
 refine (H10.out _ _ (hB.below bel) (bk_at rfl)).mono ?_
 rintro e w16 ⟨_,rfl,⟨u,rfl,hu⟩,g16⟩
 have G16 : Below w3.heap.size w3 w16:=bn (ba G15) g16
 have B16:=bn (w:=w) bel g16
 clear g16
 obtain ⟨A16,cap16,rfl, -, -, -⟩:=hu.open
 rw [F1.out] at hu ⊢
 clear hu
 go_wp2_with fail
 refine (H11.out _ _ (hB.below bel) (HU.out.below G16)).mono ?_
 rintro e w17 ⟨rfl,g17⟩
 have G17 : Below w3.heap.size w3 w17:=bn G16 g17
 have B17:=bn (w:=w) bel g17
 clear g17
 have hc12 : (12 : Int)≤(cap : Int):=by omega
 go_wp2_with fail
 refine (H12.out _ _ (hB.below bel) (by rw [HB1.out]; exact Ts.tail (HU.out.below G17))).mono ?_
 rintro e w18 ⟨rfl,g18⟩
 have B18:=bn (w:=w) bel g18
 clear g18
 go_wp2
 go_ret
 exact ⟨rfl,bel⟩
end Go.Proofs.YtbnbaokamccmjaaGreatDoor

/- law of chapter 12: awake is true. -/
namespace Go.Proofs.YtbnbaokamccmjaaGreatDoor
open Go Go.RowKit
theorem valid_txt (L : List (Tr V3)) : (L.map txt).all tvalid=true:=by
 rw [List.all_eq_true]
 intro t ht
 obtain ⟨u,_,rfl⟩:=List.mem_map.1 ht
 simp [tvalid,txt,Tr.map,isVec_txv]
theorem open_txt (L : List (Tr V3)) : openT (L.map txt)=openT L:=openT_map (f:=txv) txv_apart L
theorem chk_ok {L : List (Tr V3)} (h : L.length≤512) (ho : openT L=false) : chkC (L.map txt)=0 :=
 chkC_ok (by rw [List.length_map]; omega) (valid_txt L) (by rw [open_txt]; exact ho)
theorem chk_op {L : List (Tr V3)} (h : L.length≤512) (ho : openT L=true) : chkC (L.map txt)=17 :=
 chkC_open (by rw [List.length_map]; omega) (valid_txt L) (by rw [open_txt]; exact ho)
theorem shells_txt (L : List (Tr V3)) : shellsL (L.map txt)=shellsL L:=shellsL_map (f:=txv) txv_apart L
theorem rtx_one : rtx 1=⟨#[49]⟩:=by decide +kernel
theorem rtx_two : rtx 2=⟨#[50]⟩:=by decide +kernel
theorem rtx_five : rtx 5=⟨#[53]⟩:=by decide +kernel
def lo0 : V3:=⟨0,0,0⟩
def hi0 : V3:=⟨2,1,1⟩
def five : V3:=⟨5,0,0⟩
def box0 : List (Tr V3):=boxT lo0 hi0
def mov0 : List (Tr V3):=box0.map (Tr.map (V3.add · five))
theorem lo0_lt : lo0.lt3 hi0:=by unfold V3.lt3; decide +kernel
theorem box0_len : box0.length=12:=by decide +kernel
theorem box0_closed : openT box0=false:=boxT_closed lo0_lt.1 lo0_lt.2.1 lo0_lt.2.2
theorem box0_tail : openT box0.tail=true:=by decide +kernel
theorem mov0_closed : openT mov0=false:=by decide +kernel
theorem both_closed : openT (box0++mov0)=false:=by decide +kernel
theorem both_shells : shellsL (box0++mov0)=2:=by decide +kernel
theorem box0_shells : shellsL box0=1:=boxT_shells lo0_lt.1 lo0_lt.2.1 lo0_lt.2.2
theorem box0_convex : convexL box0=true:=boxT_convex lo0_lt.1 lo0_lt.2.1 lo0_lt.2.2
theorem box0_points : (pointsL box0).length=8:=by
 unfold box0
 rw [boxT_points lo0_lt.1 lo0_lt.2.1 lo0_lt.2.2,List.length_map,boxI_points]
theorem box0_le : ∀ t ∈ box0,t.a.le 1∧t.b.le 1∧t.c.le 1:=by
 unfold V3.le
 decide +kernel
theorem mov0_le : ∀ t ∈ mov0,t.a.le 1∧t.b.le 1∧t.c.le 1:=by
 unfold V3.le
 decide +kernel
theorem le_up {L : List (Tr V3)} {k m : Nat} (h : ∀ t ∈ L,t.a.le k∧t.b.le k∧t.c.le k) (hm : k≤m) : ∀ t ∈ L,t.a.le m∧t.b.le m∧t.c.le m :=
 fun t ht=>⟨(h t ht).1.mono hm,(h t ht).2.1.mono hm,(h t ht).2.2.mono hm⟩
theorem VV_lo0 : VV lo0=.agg #[.string ⟨#[48]⟩,.string ⟨#[48]⟩,.string ⟨#[48]⟩]:=by
 rw [VV_eq]; simp only [lo0,rtx_zero]
theorem VV_hi0 : VV hi0=.agg #[.string ⟨#[50]⟩,.string ⟨#[49]⟩,.string ⟨#[49]⟩]:=by
 rw [VV_eq]; simp only [hi0,rtx_one,rtx_two]
theorem VV_five : VV five=.agg #[.string ⟨#[53]⟩,.string ⟨#[48]⟩,.string ⟨#[48]⟩]:=by
 rw [VV_eq]; simp only [five,rtx_zero,rtx_five]
theorem five_le : five.le 1000000:=by unfold V3.le; decide +kernel
theorem lo0_le : lo0.le 100000:=by unfold V3.le; decide +kernel
theorem hi0_le : hi0.le 100000:=by unfold V3.le; decide +kernel
def tri0 : List V3:=[⟨0,0,0⟩,⟨1,0,0⟩,⟨0,1,0⟩]
theorem tri0_le : ∀ p ∈ tri0,p.le 1:=by unfold V3.le; decide +kernel
theorem tri0_cells : svs (tvs tri0)=[.string ⟨#[48]⟩,.string ⟨#[48]⟩,.string ⟨#[48]⟩,.string ⟨#[49]⟩,.string ⟨#[48]⟩,.string ⟨#[48]⟩,.string ⟨#[48]⟩,.string ⟨#[49]⟩,.string ⟨#[48]⟩]:=by
 simp only [tri0,tvs,List.map_cons,List.map_nil,txv,svs,List.flatMap_cons,List.flatMap_nil,SV.cells,rtx_zero,rtx_one]
 rfl
theorem awake_walk (w : World) (hB : Bw w) :
  Calls Tryz.prog 10 #[] w fun e w'=>e=.returned (.bool true)∧Below w.heap.size w w':=by
 have hb : chkC (box0.map txt)=0:=chk_ok (by rw [box0_len]; omega) box0_closed
 have hml : mov0.length=12:=by unfold mov0; rw [List.length_map,box0_len]
 have hm : chkC (mov0.map txt)=0:=chk_ok (by rw [hml]; omega) mov0_closed
 have hj : chkC ((box0++mov0).map txt)=0:=chk_ok (by rw [List.length_append,hml,box0_len]; omega) both_closed
 have hbl : tle (box0.map txt) 40000000:=tle_txt (le_up box0_le (show 1≤1000000 by omega)) (by omega)
 have hmle : tle (mov0.map txt) 40000000:=tle_txt (le_up mov0_le (show 1≤1000000 by omega)) (by omega)
 have hjl : tle ((box0++mov0).map txt) 40000000:=by
  intro t ht
  rw [List.map_append] at ht
  rcases List.mem_append.1 ht with h | h
  ·exact hbl t h
  ·exact hmle t h
 refine awake_at (box0.map txt) (mov0.map txt) ((box0++mov0).map txt) ((box0.map txt).map Tr.turn) ((box0.map (fun t=>(t.map V3.flip).turn)).map txt) (box0.map txt).tail (fanL (tvs tri0)) (tvs (pointsL box0)) w hB
  (by rw [List.length_map,box0_len]) (by rw [List.length_map,hml]) (by rw [List.length_map,List.length_append,hml,box0_len]) (by rw [List.length_map,List.length_map,box0_len]) (by rw [List.length_map,List.length_map,box0_len]) (by rw [fanL_length]; rfl) (by rw [tvs_length,box0_points]) rfl ?_ ?_ ?_ ?_ ?_ ?_ ?_ ?_ ?_ ?_ ?_ ?_
 ·intro w hB
  have:=mbox_ok lo0 hi0 lo0_le hi0_le lo0_lt w hB
  rw [VV_lo0,VV_hi0] at this
  exact this
 ·intro v w hB hv
  have:=mPoints_ok v (box0.map txt) w hB hv hbl hb
  rw [points_txt] at this
  exact this
 ·intro v w hB hv
  have:=mShells_ok v (box0.map txt) w hB hv hbl hb
  rw [shells_txt,box0_shells] at this
  exact this
 ·intro v w hB hv
  have:=convex_walk v box0 w hB hv (le_up box0_le (by omega)) hb
  rw [box0_convex] at this
  exact this
 ·intro v w hB hv
  have:=mMove_ok v box0 five w hB hv (le_up box0_le (by omega)) five_le hb
  rw [VV_five] at this
  exact this
 ·intro v1 v2 w hB h1 h2
  have:=mJoin_ok v1 v2 (box0.map txt) (mov0.map txt) w hB h1 h2 hbl hmle hb hm (by rw [List.length_map,List.length_map,hml,box0_len]; omega)
  rw [← List.map_append] at this
  exact this
 ·intro v w hB hv
  have:=mShells_ok v ((box0++mov0).map txt) w hB hv hjl hj
  rw [shells_txt,both_shells] at this
  exact this
 ·intro v w hB hv
  exact mReverse_ok v (box0.map txt) w hB hv hbl hb
 ·intro v w hB hv
  exact mMirror_ok v box0 w hB hv (le_up box0_le (by omega)) hb
 ·intro p w hB hk
  have hv : Vs w (.slice (some ⟨p,0,none⟩) 3 3) (tvs tri0):=vs_of_bk (by rw [tri0_cells]; exact hk) rfl (by rw [tvs_length]; decide)
  exact mfan_ok (.slice (some ⟨p,0,none⟩) 3 3) (tvs tri0) w hB hv (tvs_le tri0_le (by omega)) (polC_tvs (by decide) (by decide) (by omega))
 ·intro v w hB hv
  have:=check_walk v (box0.map txt) w hB hv hbl
  rw [hb] at this
  exact this
 ·intro v w hB hv
  have ht : (box0.map txt).tail=box0.tail.map txt:=by simp
  rw [ht] at hv
  have h17 : chkC (box0.tail.map txt)=17:=chk_op (by rw [List.length_tail,box0_len]; omega) box0_tail
  have hle : tle (box0.tail.map txt) 40000000:=by
   rw [← ht]
   exact fun t h=>hbl t (List.mem_of_mem_tail h)
  have:=check_walk v (box0.tail.map txt) w hB hv hle
  rw [h17] at this
  exact this
end Go.Proofs.YtbnbaokamccmjaaGreatDoor

/- law of chapter 12: few, the closures of MeshBoxes, slices.Contains. -/
namespace Go.Proofs.YtbnbaokamccmjaaGreatDoor
open Go Go.RowKit
def isFew (s : SV) : Bool:=decide (s.x.size≤20) && decide (s.y.size≤20) && decide (s.z.size≤20)
set_option maxHeartbeats 1000000 in
theorem Few_walk (v : Value) (l : List SV) (w : World) (hv : Vs w v l) (hm : l.length≤1000000) :
  Calls Tryz.prog 47 #[v] w fun e w'=>e=.returned (.bool (l.all isFew))∧Below w.heap.size w w':=by
 obtain ⟨A,cap,rfl,hn,hc,hcell⟩:=hv.open
 have HCL:=Lib.hid hcell
 have HTE:=Lib.hid (show l.take l.length=l from List.take_length)
 obtain ⟨n,hn0⟩ : ∃ n,n=l.length:=⟨_,rfl⟩
 have HG:=Lib.hid (fun k (hk : k<n)=>(show ∃ s,l[k]?=some s from ⟨_,List.getElem?_eq_getElem (by rw [← hn0]; exact hk)⟩))
 rw [← hn0] at hn hm HCL HTE ⊢
 clear hn0 hv hcell
 go_enter Tryz.func47,Tryz.ntmps47
 go_wp2
 go_loopw [3] (fun ii wr=>∃ k : Nat,k≤n∧ii=.int .i64 k∧Hid ((l.take k).all isFew=true)∧wr=w) (fun ii _=>n - (intOf ii).toNat)
 case atStart=>exact ⟨0,Nat.zero_le _,rfl,Lib.hid rfl,rfl⟩
 case round =>
  obtain ⟨k,hk,rfl,hd,rfl⟩:=hrel
  by_cases hlt : k<n
  ·obtain ⟨s,hg⟩:=HG.out k hlt
   obtain ⟨b,off,rfl,hcl⟩:=HCL.out (by omega)
   obtain ⟨c0,c1,c2⟩:=hcl k _ hg
   have HT:=Lib.hid (fun (h : isFew s=true)=>take_all hg hd.out h)
   have HF : Hid (isFew s=false→l.all isFew=false):=Lib.hid (fun h=>List.all_eq_false.2 ⟨s,List.mem_of_getElem? hg,by rw [h]; decide⟩)
   have hk0 : (0 : Int)≤(k : Int):=by omega
   have hkn : (k : Int)<(n : Int):=by omega
   clear hg hcl hd
   by_cases h0 : s.x.size≤20
   ·have i0 : (s.x.size : Int)≤20:=by omega
    by_cases h1 : s.y.size≤20
    ·have i1 : (s.y.size : Int)≤20:=by omega
     by_cases h2 : s.z.size≤20
     ·have i2 : (s.z.size : Int)≤20:=by omega
      have E:=Lib.hid (HT.out (by simp [isFew,h0,h1,h2]))
      clear HT HF
      go_wp2
      go_roundw
      case rel=>exact ⟨k+1,by omega,by go_num,E,trivial⟩
      case measure=>simp [intOf]; omega
     ·have i2 : (20 : Int)<(s.z.size : Int):=by omega
      have E:=Lib.hid (HF.out (by simp [isFew,h2]))
      clear HT HF
      go_wp2
      go_ret
      exact ⟨by rw [E.out]; rfl,br _⟩
    ·have i1 : (20 : Int)<(s.y.size : Int):=by omega
     have E:=Lib.hid (HF.out (by simp [isFew,h1]))
     clear HT HF
     go_wp2
     go_ret
     exact ⟨by rw [E.out]; rfl,br _⟩
   ·have i0 : (20 : Int)<(s.x.size : Int):=by omega
    have E:=Lib.hid (HF.out (by simp [isFew,h0]))
    clear HT HF
    go_wp2
    go_ret
    exact ⟨by rw [E.out]; rfl,br _⟩
  ·obtain rfl : k=n:=by omega
   rw [HTE.out] at hd
   have E:=Lib.hid hd.out
   clear hd
   go_wp2
   go_ret
   exact ⟨by rw [E.out]; rfl,br _⟩
end Go.Proofs.YtbnbaokamccmjaaGreatDoor

/- law of chapter 12: garboardref12: Few, Same. -/
namespace Go.Proofs.YtbnbaokamccmjaaGreatDoor
open Go Go.RowKit
def fewTri (t : TV) : Bool:=[t.a,t.b,t.c].all isFew
def fewLen (n : Nat) : Bool:=decide (n≤40) || decide (n=513)
def fewT (l : List TV) : Bool:=l.all fewTri && fewLen l.length
theorem vs_tri {w : World} {b off j : Nat} {t : TV} (h : ∀ i u,(TV.cells t)[i]?=some u→w.cell? ⟨b,off + (j * 9+i),none⟩=some u) : Vs w (.slice (some ⟨b,off+j * 9,none⟩) 3 3) [t.a,t.b,t.c]:=by
 refine ⟨rfl,some ⟨b,off+j * 9,none⟩,3,rfl,Nat.le_refl _,by decide,fun _=>⟨b,off+j * 9,rfl,fun i u hu=>?_⟩⟩
 have : svs [t.a,t.b,t.c]=TV.cells t:=rfl
 rw [this] at hu
 have:=h i u hu
 rwa [← Nat.add_assoc] at this
set_option maxHeartbeats 1000000 in
theorem refFew_walk (v : Value) (l : List TV) (w : World) (hv : Ts w v l) :
  Calls Tryz.prog 20 #[v] w fun e w'=>e=.returned (.bool (fewT l))∧Below w.heap.size w w':=by
 obtain ⟨A,cap,rfl,hn,hc,hcell⟩:=hv.open
 have HCL:=Lib.hid hcell
 have HTE:=Lib.hid (show l.take l.length=l from List.take_length)
 obtain ⟨n,hn0⟩ : ∃ n,n=l.length:=⟨_,rfl⟩
 have HG:=Lib.hid (fun k (hk : k<n)=>(show ∃ s,l[k]?=some s from ⟨_,List.getElem?_eq_getElem (by rw [← hn0]; exact hk)⟩))
 have HR : Hid ((l.all fewTri=true→fewT l=fewLen n)∧(l.all fewTri=false→fewT l=false)):=Lib.hid ⟨fun h=>by unfold fewT; rw [h,hn0]; rfl,fun h=>by unfold fewT; rw [h]; rfl⟩
 rw [← hn0] at hn HCL HTE ⊢
 clear hn0 hv hcell
 go_enter Tryz.func20,Tryz.ntmps20
 go_wp2
 go_loopw [3] (fun ii wr=>∃ k : Nat,k≤n∧ii=.int .i64 k∧Hid ((l.take k).all fewTri=true)∧Below w.heap.size w wr) (fun ii _=>n - (intOf ii).toNat)
 case atStart=>exact ⟨0,Nat.zero_le _,rfl,Lib.hid rfl,Below.refl _ _⟩
 case round =>
  obtain ⟨k,hk,rfl,hd,hbw⟩:=hrel
  by_cases hlt : k<n
  ·obtain ⟨s,hg⟩:=HG.out k hlt
   obtain ⟨b,off,rfl,hcl⟩:=HCL.out (by omega)
   have hvt:=vs_tri (w:=wr) (fun i u hu=>cell_below hbw (hcl k _ hg i u hu))
   have HT:=Lib.hid (fun (h : fewTri s=true)=>take_all hg hd.out h)
   have HF : Hid (fewTri s=false→l.all fewTri=false):=Lib.hid (fun h=>List.all_eq_false.2 ⟨s,List.mem_of_getElem? hg,by rw [h]; decide⟩)
   have HK : Hid (Calls Tryz.prog 47 #[.slice (some ⟨b,off+k * 9,none⟩) 3 3] wr fun e w'=>e=.returned (.bool (fewTri s))∧Below wr.heap.size wr w'):=Lib.hid (Few_walk _ _ wr hvt (by simp))
   have hk0 : (0 : Int)≤(k : Int):=by omega
   have hkn : (k : Int)<(n : Int):=by omega
   clear hg hcl hd hvt
   generalize hq : fewTri s=q at *
   cases q with
   | true =>
    have E:=Lib.hid (HT.out rfl)
    clear HT HF hq
    go_wp2_with fail
    refine HK.out.mono ?_
    rintro e w1 ⟨rfl,g1⟩
    have b1 : Below w.heap.size w w1:=bn hbw g1
    clear g1
    go_wp2
    go_roundw
    case rel=>exact ⟨k+1,by omega,by go_num,E,b1⟩
    case measure=>simp [intOf]; omega
   | false =>
    have E:=Lib.hid (HR.out.2 (HF.out rfl))
    clear HT HF hq
    go_wp2_with fail
    refine HK.out.mono ?_
    rintro e w1 ⟨rfl,g1⟩
    have b1 : Below w.heap.size w w1:=bn hbw g1
    clear g1
    go_wp2
    go_ret
    exact ⟨by rw [E.out]; rfl,b1⟩
  ·obtain rfl : k=n:=by omega
   rw [HTE.out] at hd
   have E:=Lib.hid (HR.out.1 hd.out)
   clear hd HR
   unfold fewLen at E
   by_cases h0 : k≤40
   ·have i0 : (k : Int)≤40:=by omega
    rw [decide_eq_true h0] at E
    clear HG HTE HCL hk hlt h0
    go_wp2
    go_ret
    exact ⟨by rw [E.out]; rfl,hbw⟩
   ·have i0 : (40 : Int)<(k : Int):=by omega
    rw [decide_eq_false h0] at E
    by_cases h1 : k=513
    ·subst h1
     clear HG HTE HCL hk hlt h0
     go_wp2
     go_ret
     exact ⟨by rw [E.out]; rfl,hbw⟩
    ·have i1 : ((k : Int) == 513)=false:=by simp; omega
     have z0 : Hid (decide ((k : Int)≤40)=false):=Lib.hid (decide_eq_false (by omega))
     rw [decide_eq_false h1] at E
     clear HG HTE HCL hk hlt h0 h1
     go_wp2
     go_ret
     exact ⟨by rw [E.out]; show Ending.returned (Value.bool (decide ((k : Int)≤40)))=_; rw [z0.out]; rfl,hbw⟩
end Go.Proofs.YtbnbaokamccmjaaGreatDoor

/- law of chapter 12: a solid and a row of vectors that came in, opened. -/
set_option maxRecDepth 100000
namespace Go.Proofs.YtbnbaokamccmjaaGreatDoor
open Go Go.ChangeShapes Go.WideShapes Go.RowKit Go.Deep
section
variable {H : Type} {enc : TypeId × Value→H} {w : World} {base : Nat} {sp : Nat→Bool} {held : Bool} {fuel : Nat} {cs : List Value} {x : DataW H × List MemPlace}
theorem cells_vec : Tryz.prog.cellsOf 25=3:=by kernel_rfl
theorem cells_tri : Tryz.prog.cellsOf 43=9:=by kernel_rfl
theorem open_three {P : Program} {t : TypeId} {f0 f1 f2 : Field} (hs : P.underlying t=some (.struct #[f0,f1,f2])) (hone : oneCellFields P #[f0,f1,f2]=true) (hC : P.cellsOf t=3) (h : DataW.trod enc P w base sp held fuel t cs=some x) :
  ∃ (v0 v1 v2 : Value) (y0 y1 y2 : DataW H × List MemPlace) (n : Nat),cs=[v0,v1,v2]∧DataW.trod enc P w base sp held n f0.type [v0]=some y0∧DataW.trod enc P w base sp held n f1.type [v1]=some y1∧DataW.trod enc P w base sp held n f2.type [v2]=some y2:=by
 obtain ⟨xs,n,_,_,hlen,hl,hg⟩:=DataW.trod_struct hs h
 rw [hC] at hlen
 obtain ⟨o0,k0⟩:=hone_of hone 0 f0 rfl
 obtain ⟨o1,k1⟩:=hone_of hone 1 f1 rfl
 obtain ⟨o2,k2⟩:=hone_of hone 2 f2 rfl
 match cs,hlen,xs,hl with
 | [v0,v1,v2],_,[y0,y1,y2],_ =>
  exact ⟨v0,v1,v2,y0,y1,y2,n,rfl,by simpa [o0,k0] using hg 0 f0 rfl,by simpa [o1,k1] using hg 1 f1 rfl,by simpa [o2,k2] using hg 2 f2 rfl⟩
theorem open_vec (h : DataW.trod enc Tryz.prog w base sp held fuel 25 cs=some x) : ∃ s : SV,cs=s.cells:=by
 obtain ⟨v0,v1,v2,y0,y1,y2,n,rfl,h0,h1,h2⟩:=open_three Tryz.underlying25 (by kernel_rfl) (by kernel_rfl) h
 obtain ⟨s0,e0,_⟩:=DataW.trod_string Tryz.underlying23 h0
 obtain ⟨s1,e1,_⟩:=DataW.trod_string Tryz.underlying23 h1
 obtain ⟨s2,e2,_⟩:=DataW.trod_string Tryz.underlying23 h2
 simp at e0 e1 e2
 subst e0 e1 e2
 exact ⟨⟨s0,s1,s2⟩,rfl⟩
theorem open_tri (h : DataW.trod enc Tryz.prog w base sp held fuel 43 cs=some x) : ∃ t : TV,cs=t.cells:=by
 obtain ⟨xs,n,_,_,hlen,hl,hf⟩:=DataW.trod_array Tryz.underlying43 h
 rw [cells_tri] at hlen
 have one : ∀ i,i<3→∃ s : SV,(cs.drop (i * 3)).take 3=s.cells:=by
  intro i hi
  have h1:=hf i hi
  rw [cells_vec,List.getElem?_eq_getElem (by rw [hl]; exact hi)] at h1
  exact open_vec h1
 obtain ⟨a,ha⟩:=one 0 (by omega)
 obtain ⟨b,hb⟩:=one 1 (by omega)
 obtain ⟨c,hc⟩:=one 2 (by omega)
 refine ⟨⟨a,b,c⟩, ?_⟩
 have e : cs=(cs.drop (0 * 3)).take 3++(cs.drop (1 * 3)).take 3++(cs.drop (2 * 3)).take 3:=by
  match cs,hlen with
  | [_,_,_,_,_,_,_,_,_],_=>rfl
 rw [e,ha,hb,hc]
 rfl
end
theorem flat_get {α : Type} (k : Nat) (F : α→List Value) (hk : ∀ x,(F x).length=k) : ∀ (l : List α) (i : Nat) (u : Value),(l.flatMap F)[i]?=some u→0<k→∃ j r x,i=j * k+r∧r<k∧l[j]?=some x∧(F x)[r]?=some u
 | [],i,u,h,_=>by simp at h
 | a :: l,i,u,h,h0=>by
  rw [List.flatMap_cons] at h
  by_cases hi : i<k
  ·rw [List.getElem?_append_left (by rw [hk]; exact hi)] at h
   exact ⟨0,i,a,by omega,hi,rfl,h⟩
  ·rw [List.getElem?_append_right (by rw [hk]; omega),hk] at h
   obtain ⟨j,r,x,h1,h2,h3,h4⟩:=flat_get k F hk l (i - k) u h h0
   exact ⟨j+1,r,x,by rw [Nat.add_mul,Nat.one_mul]; omega,h2,by simpa using h3,h4⟩
section
variable {H : Type} {enc : TypeId × Value→H} {W : World} {v : Value} {d : DataW H} {p : List MemPlace}
theorem open_solid {r : Reach} {b0 : Nat} (hval : Value.okWide Tryz.prog W r b0 33 v) (h : DataW.Trod enc Tryz.prog W 0 (fun _=>true) true 33 v d p) : ∃ l : List TV,Ts W v l:=by
 obtain ⟨fuel,hf⟩:=h
 obtain ⟨a0,n0,c0,rfl⟩:=okWide_slice Tryz.underlying33 hval
 rcases open_slice Tryz.underlying33 hf with ⟨h0,_⟩ | ⟨a,len,cap,m,n,D,Pl,hcs,hb,hl,hm,hmm,hx,hi⟩
 ·simp [Value.cells] at h0
  obtain ⟨rfl,rfl,rfl⟩:=h0
  exact ⟨[],Ts.nil W⟩
 ·simp [Value.cells] at hcs
  obtain ⟨rfl,rfl,rfl⟩:=hcs
  have hmc : n0≤m:=by rw [hmm]; simp; exact hl
  have each : ∀ i,i<n0→∃ t : TV,∀ j u,(TV.cells t)[j]?=some u→W.cell? (a.add (i * 9+j))=some u:=fun i hin=>by
   obtain ⟨cs',h1,h2⟩:=hi i (by omega)
   obtain ⟨t,ht⟩:=open_tri h2
   rw [cells_tri] at h1
   obtain ⟨_,hlen,hc⟩:=World.cells?_some h1
   refine ⟨t,fun j u hu=>?_⟩
   have hj : j<9:=(List.getElem?_eq_some_iff.1 hu).1
   have:=hc j hj
   rw [Go.Deep.add_add,ht,hu] at this
   exact this
  have inh : Inhabited TV:=⟨⟨⟨⟨#[]⟩,⟨#[]⟩,⟨#[]⟩⟩,⟨⟨#[]⟩,⟨#[]⟩,⟨#[]⟩⟩,⟨⟨#[]⟩,⟨#[]⟩,⟨#[]⟩⟩⟩⟩
  obtain ⟨F,hF⟩:=choose_lt each
  refine ⟨(List.range n0).map F, ?_⟩
  have hlen : ((List.range n0).map F).length=n0:=by simp
  refine ⟨by rw [tcs_length],some a,c0,by rw [hlen],by rw [hlen]; exact hl,hm,fun h0=>?_⟩
  rw [hlen] at h0
  have hsp : a.spot=none:=by
   have:=hF 0 h0 0 _ rfl
   have:=World.cell?_spot this
   simpa [Addr.add] using this
  obtain ⟨b,off,spot⟩:=a
  simp at hsp
  subst hsp
  refine ⟨b,off,rfl,fun i u hu=>?_⟩
  obtain ⟨j,r,t,rfl,hr,hj,hu2⟩:=flat_get 9 TV.cells (fun _=>rfl) _ i u hu (by omega)
  have hj2 : j<n0:=by
   have:=(List.getElem?_eq_some_iff.1 hj).1
   simpa using this
  have e : t=F j:=by
   have:=(List.getElem?_eq_some_iff.1 hj).2
   simpa using this.symm
  subst e
  have:=hF j hj2 r u hu2
  rw [add_plain] at this
  exact this
end
end Go.Proofs.YtbnbaokamccmjaaGreatDoor

/- law of chapter 12: words that all rows share: small solids, the listed variables, one world that fits. -/
namespace Go.Proofs.YtbnbaokamccmjaaGreatDoor
open Go Go.ChangeShapes Go.WideShapes Go.ChangeAt Go.RowKit Go.Joins
open Go.ChangeMaps (open_string shut_string)
theorem rz_few {x : Rat} (h : (rtx x).size≤20) : rz x≤20:=Nat.le_trans (rz_le_size x) h
theorem few_le {A : V3} (h : isFew (txv A)=true) : A.le 20:=by
 simp only [isFew,Bool.and_eq_true,decide_eq_true_eq] at h
 exact ⟨rz_few h.1.1,rz_few h.1.2,rz_few h.2⟩
theorem few_sv {s : SV} (h : isFew s=true) : s.le 40000000:=by
 simp only [isFew,Bool.and_eq_true,decide_eq_true_eq] at h
 exact ⟨Nat.le_trans h.1.1 (by omega),Nat.le_trans h.1.2 (by omega),Nat.le_trans h.2 (by omega)⟩
/-! ### Small and valid solids -/
theorem few_tri {l : List TV} (h : fewT l=true) : ∀ t ∈ l,isFew t.a=true∧isFew t.b=true∧isFew t.c=true:=by
 unfold fewT at h
 rw [Bool.and_eq_true,List.all_eq_true] at h
 intro t ht
 have:=h.1 t ht
 simp only [fewTri,List.all_cons,List.all_nil,Bool.and_true,Bool.and_eq_true] at this
 exact this
theorem few_len {l : List TV} (h : fewT l=true) : l.length≤513:=by
 unfold fewT fewLen at h
 simp only [Bool.and_eq_true,Bool.or_eq_true,decide_eq_true_eq] at h
 omega
theorem few_tle {l : List TV} (h : fewT l=true) : tle l 40000000:=fun t ht=>⟨few_sv (few_tri h t ht).1,few_sv (few_tri h t ht).2.1,few_sv (few_tri h t ht).2.2⟩
theorem solid_of : ∀ {l : List TV},l.all tvalid=true→∃ L : List (Tr V3),l=L.map txt
 | [],_=>⟨[],rfl⟩
 | t :: l,h=>by
  rw [List.all_cons,Bool.and_eq_true] at h
  obtain ⟨L,rfl⟩:=solid_of h.2
  have h1:=h.1
  unfold tvalid at h1
  simp only [Bool.and_eq_true] at h1
  obtain ⟨A,hA⟩:=isVec_iff.1 h1.1.1
  obtain ⟨B,hB⟩:=isVec_iff.1 h1.1.2
  obtain ⟨C,hC⟩:=isVec_iff.1 h1.2
  refine ⟨⟨A,B,C⟩ :: L, ?_⟩
  obtain ⟨ta,tb,tc⟩:=t
  simp only at hA hB hC
  subst hA hB hC
  rfl
theorem few_leT {L : List (Tr V3)} (h : fewT (L.map txt)=true) : leT L 20:=by
 intro t ht
 obtain ⟨h1,h2,h3⟩:=few_tri h (txt t) (List.mem_map_of_mem ht)
 exact ⟨few_le h1,few_le h2,few_le h3⟩
theorem clone_sl (v : Value) (l : List TV) (n : Nat) (hn : l.length=n) (hm : n≤1000000) (w : World) (hv : Ts w v l) :
  Calls Tryz.prog 22 #[v] w (Ret fun r w'=>(∃ A c,r=.slice A n c∧Ts w' (.slice A n c) l)∧Below w.heap.size w w'):=by
 refine (cloneS_walk v l w hv (by omega)).mono ?_
 rintro e w' ⟨r,he,hu,hg⟩
 have hu2 : Ts w' r l:=Ts.own hu
 obtain ⟨A,c,hA,_⟩:=hu2.open
 subst hA
 rw [hn] at hu2 he
 exact ⟨_,he,⟨A,c,rfl,hu2⟩,hg⟩
/-! ### The row -/
theorem own : ownKnob Tryz.prog.godebug=none:=by kernel_rfl
theorem gPow : Tryz.prog.globalNamed "internal/strconv.uint64pow10" = some 3 := by kernel_rfl
def laidVals (d : DataW Unit) : Array Value:=match d with
 | .agg ds=>(ds.map fun x=>match x with | .lit (.int k z)=>Value.int k z | _=>Value.bool false).toArray
 | _=>#[]
abbrev laidList:=Rows.meshBoxesRow.laid
theorem tab_of {W : World} (h : laidMetH Tryz.prog laidList W) : Lib.TabIs Tryz.prog W "internal/strconv.uint64pow10" .u64 Lib.pow10Tab := by
 have h2 : laidMet Tryz.prog laidList W:=h
 obtain ⟨ps,⟨_,_,_,_,_,_,_,_,_,_,⟨_,_,_,_,_,_,_,_,_,_,h3,_⟩,_⟩,_,_⟩:=h2
 obtain ⟨g',t',cs,fuel,p,q,hg',ht',hvar,hd,_,_⟩:=h3
 obtain rfl:=Option.some.inj (gPow.symm.trans hg')
 have hty : (Tryz.prog.globals[3]?).map (·.type)=some 293:=by kernel_rfl
 obtain rfl:=Option.some.inj (hty.symm.trans ht')
 unfold Lib.TabIs
 have hd2 : DataW.trod (fun _=>()) Tryz.prog W 0 (fun _=>true) false fuel 293 cs.toList=some (Lib.tabData .u64 Lib.pow10Tab,p):=hd
 rw [hvar,← Lib.cells_of_tab (n:=20) Tryz.underlying293 Tryz.underlying204 (by kernel_rfl) (by kernel_rfl) hd2]
theorem bw_of {W : World} (h : laidMetH Tryz.prog laidList W) (hs : W.ShapedOpen Tryz.prog) : Bw W :=
 ⟨tab_of h,cell_of_shapedOpen_int (zero:=#[.int .i64 0]) (t:=3) hs (of_decide_eq_true (by kernel_rfl)) (by kernel_rfl) rfl (by kernel_rfl) (by kernel_rfl) Tryz.underlying3⟩
/-! ### One input that fits -/
def putCells (cs : Array Value) : Obj→Obj
 | .cells _ t fr=>.cells cs t fr
 | o=>o
noncomputable def wlow : Nat:=(World.holding Tryz.prog default ⟨#[],#[],[]⟩).heap.size
abbrev rangeS : ByteArray:={ data:=#[118,97,108,117,101,32,111,117,116,32,111,102,32,114,97,110,103,101] }
abbrev syntaxS : ByteArray:={ data:=#[105,110,118,97,108,105,100,32,115,121,110,116,97,120] }
noncomputable def laidWorld (os : Os) : World :=
 let w0:=World.holding Tryz.prog os ⟨#[.cells #[.string rangeS] 299,.cells #[.string syntaxS] 299],#[],[]⟩
 { w0 with heap:=((((w0.heap.modify 4 (putCells (laidVals Rows.laid_math_bits_deBruijn32tab))).modify 5 (putCells (laidVals Rows.laid_math_bits_deBruijn64tab))).modify 3 (putCells (laidVals Rows.laid_internal_strconv_uint64pow10))).modify 2 (putCells #[.iface 297 (.pointer (some ⟨wlow,0,none⟩))])).modify 1 (putCells #[.iface 297 (.pointer (some ⟨wlow+1,0,none⟩))]) }
theorem laidOut : laidOutB Tryz.prog=true:=by kernel_rfl
def noSol : Value:=.slice none 0 0
end Go.Proofs.YtbnbaokamccmjaaGreatDoor

/- law of chapter 12: MeshOrder: its walk. -/
namespace Go.Proofs.YtbnbaokamccmjaaGreatDoor
open Go Go.RowKit
theorem mConvex_bad (v : Value) (l : List TV) (z : Int) (w : World) (hB : Bw w) (hv : Ts w v l) (hs : tle l 40000000) (hz : chkC l=z) (h0 : z≠0) :
  Calls Tryz.prog 30 #[v] w fun e w'=>e=.returned (.tuple #[.bool false,.int .i64 z])∧Below w.heap.size w w':=by
 have H:=Lib.hid (fun w hB hv=>check_walk v l w hB hv hs)
 rw [hz] at H
 obtain ⟨A,cap,rfl,hn,hc,hcell⟩:=hv.open
 clear hcell hn hc hs hz
 go_enter Tryz.func30,Tryz.ntmps30
 go_wp2_with fail
 refine (H.out _ (hB.below bel) (hv.below bel)).mono ?_
 rintro e w1 ⟨rfl,g1⟩
 have B1:=bn (w:=w) bel g1
 clear g1
 go_wp2
 go_ret2
 exact ⟨rfl,bel⟩
/-! ### Parts of a row -/
section
variable {P : Program} {ops : Array Oper} {o : Oper} {a : Act} {K : Act→World→Prop} {Q : Exit→Act→World→Prop} {E : Prop}
end
/-! ### A triangle stored into a row of triangles -/
end Go.Proofs.YtbnbaokamccmjaaGreatDoor

/- law of chapter 12: MeshCloses: slices.Delete of a solid, slices.Clone of vectors, few, the bad ways of Prism, Move, Join. -/
namespace Go.Proofs.YtbnbaokamccmjaaGreatDoor
open Go Go.RowKit
/-! ### few, whatever the row's length is -/
/-! ### slices.Clone of vectors -/
/-! ### The bad ways of Prism, Move and Join -/
/-! ### slices.Delete of one triangle -/
end Go.Proofs.YtbnbaokamccmjaaGreatDoor
