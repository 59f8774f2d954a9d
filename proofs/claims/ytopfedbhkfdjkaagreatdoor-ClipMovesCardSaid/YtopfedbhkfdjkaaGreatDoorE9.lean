
/- Maps whose keys are structs of strings: a map that is a list of pairs, and what each operation does to that list. Plain laws on the model: no function of the program. -/
import Derived.Maps.RangeRun
import Derived.Below
import Derived.Test.YtopfedbhkfdjkaaGreatDoorE4
import Derived.Test.YtopfedbhkfdjkaaGreatDoorE8
import Derived.Deep.AppendLies
import Derived.Lib.AppendZeros
import Derived.Laws.AppendOwnNone
set_option linter.unusedVariables false
set_option linter.unusedSimpArgs false
namespace Go.Proofs.YtopfedbhkfdjkaaGreatDoor
open Go Go.RowKit
open Go.ChangeMaps (setBlock)
structure KL (P : Program) (kt : TypeId) {κ : Type} [DecidableEq κ] (f : κ→Value) : Prop where
 chk : ∀ e x w,(Instr.checkKey e 10000 kt (f x)).run P w=.ok () w
 eq : ∀ x y w,(Op.equal kt (f x) (f y)).run P w=.ok (decide (x=y)) w
 und : ∃ d,P.underlying kt=some d∧∀ x y,Instr.sameNow d (f x) (f y)=none
 bits : ∀ x,Instr.sameBits 10000 (f x) (f x)=true
section
variable {κ υ : Type}
def ents (f : κ→Value) (g : υ→Value) : List (κ × υ)→Nat→List MapEntry
 | [],_=>[]
 | p :: l,n=>⟨f p.1,g p.2,n⟩ :: ents f g l (n+1)
def Mo (f : κ→Value) (g : υ→Value) (l : List (κ × υ)) : Obj:=.map (ents f g l 0).toArray l.length
variable {f : κ→Value} {g : υ→Value}
theorem ents_length : ∀ (l : List (κ × υ)) (n : Nat),(ents f g l n).length=l.length
 | [],_=>rfl
 | _ :: l,n=>by simp [ents,ents_length l]
theorem ents_get : ∀ (l : List (κ × υ)) (n i : Nat),(ents f g l n)[i]?=l[i]?.map fun p=>⟨f p.1,g p.2,n+i⟩
 | [],_,_=>by simp [ents]
 | p :: l,n,0=>by simp [ents]
 | p :: l,n,i+1=>by
  rw [ents,List.getElem?_cons_succ,List.getElem?_cons_succ,ents_get l (n+1) i]
  rw [Nat.add_right_comm,Nat.add_assoc]
theorem ents_append : ∀ (l m : List (κ × υ)) (n : Nat),ents f g (l++m) n=ents f g l n++ents f g m (n+l.length)
 | [],m,n=>by simp [ents]
 | p :: l,m,n=>by
  rw [List.cons_append,ents,ents,ents_append l m (n+1),List.cons_append,List.length_cons,Nat.add_right_comm,← Nat.add_assoc]
theorem ents_ext {l : List MapEntry} {m : List (κ × υ)} (h : ∀ i : Nat,l[i]?=m[i]?.map fun p=>(⟨f p.1,g p.2,i⟩ : MapEntry)) : l=ents f g m 0:=by
 apply List.ext_getElem?
 intro i
 rw [h i,ents_get,Nat.zero_add]
theorem ents_set (l : List (κ × υ)) (j : Nat) (x : κ) (v : υ) : ents f g (l.set j (x,v)) 0=(ents f g l 0).modify j fun e=>{ e with key:=f x,val:=g v }:=by
 symm
 refine ents_ext fun i=>?_
 rw [List.getElem?_modify,ents_get,List.getElem?_set,Nat.zero_add]
 by_cases h : j=i
 ·subst h
  simp only [if_true]
  by_cases h2 : j<l.length
  ·simp [h2,List.getElem?_eq_getElem]
  ·simp [h2,List.getElem?_eq_none (Nat.le_of_not_lt h2)]
 ·simp only [h,if_false]
  cases l[i]?<;>rfl
theorem setBlock_heap {w : World} {b : Nat} {o o' : Obj} (hb : w.heap[b]?=some o) : (setBlock w b o').heap[b]?=some o':=(MapKept.heap_set hb).1
theorem setBlock_far {w : World} {b i : Nat} {o' : Obj} (h : i≠b) : (setBlock w b o').heap[i]?=w.heap[i]?:=by
 unfold setBlock
 simp [Array.getElem?_setIfInBounds,Ne.symm h]
theorem setBlock_size (w : World) (b : Nat) (o' : Obj) : (setBlock w b o').heap.size=w.heap.size:=by simp [setBlock]
theorem below_setBlock {B : Nat} {w W : World} {b : Nat} (h : Below B w W) (hb : B≤b) (o : Obj) : Below B w (setBlock W b o) :=
 h.trans ⟨rfl,rfl,rfl,by simp [setBlock],fun k hk=>setBlock_far (by omega)⟩
/-! ### Ranging -/
theorem mo_left {l : List (κ × υ)} {seen : Array Nat} {e : MapEntry} (h : e ∈ (leftOf (ents f g l 0).toArray seen).toList) : ∃ i p,l[i]?=some p∧e=⟨f p.1,g p.2,i⟩∧seen.contains i=false:=by
 obtain ⟨h1,h2⟩:=mem_left h
 rw [List.toList_toArray] at h1
 obtain ⟨i,hi⟩:=List.getElem?_of_mem h1
 rw [ents_get,Nat.zero_add] at hi
 cases hp : l[i]? with
 | none=>rw [hp] at hi; simp at hi
 | some p =>
  rw [hp] at hi
  simp at hi
  subst hi
  exact ⟨i,p,hp,rfl,h2⟩
theorem ents_born (l : List (κ × υ)) : ∀ x ∈ (ents f g l 0).toArray.toList,x.born<l.length:=by
 intro x hx
 rw [List.toList_toArray] at hx
 obtain ⟨i,hi⟩:=List.getElem?_of_mem hx
 rw [ents_get,Nat.zero_add] at hi
 cases hp : l[i]? with
 | none=>rw [hp] at hi; simp at hi
 | some p =>
  rw [hp] at hi
  simp at hi
  subst hi
  exact (List.getElem?_eq_some_iff.1 hp).1
theorem ents_nodup (l : List (κ × υ)) : ∀ n,((ents f g l n).map (·.born)).Nodup:=by
 have key : ∀ (l : List (κ × υ)) n,∀ b ∈ (ents f g l n).map (·.born),n≤b:=by
  intro l
  induction l with
  | nil=>simp [ents]
  | cons p l ih =>
   intro n b hb
   rw [ents,List.map_cons,List.mem_cons] at hb
   rcases hb with rfl | hb
   ·exact Nat.le_refl _
   ·have:=ih (n+1) b hb; omega
 induction l with
 | nil=>simp [ents]
 | cons p l ih =>
  intro n
  rw [ents,List.map_cons,List.nodup_cons]
  exact ⟨fun h=>by have:=key l (n+1) _ h; simp at this; omega,ih (n+1)⟩
def Rg (w : World) (r b : Nat) (f : κ→Value) (g : υ→Value) (l : List (κ × υ)) (seen : Array Nat) : Prop :=
 w.heap[r]?=some (.mapIter (some b) l.length seen l.length)∧w.heap[b]?=some (Mo f g l)
def rgLeft (l : List (κ × υ)) (f : κ→Value) (g : υ→Value) (seen : Array Nat) : Nat:=(leftOf (ents f g l 0).toArray seen).size
theorem mo_range {P : Program} {t kt et : TypeId} (ht : P.underlying t=some (.map kt et)) {w : World} {b : Nat} {l : List (κ × υ)} (hb : w.heap[b]?=some (Mo f g l)) :
  (Instr.range t (.map (some b))).run P w=.ok (.pointer (some ⟨w.heap.size,0,none⟩)) (w.alloc (.mapIter (some b) l.length #[] l.length)) :=
 run_range_map w t kt et b _ _ ht hb
theorem rg_start {w : World} {b : Nat} {l : List (κ × υ)} (hb : w.heap[b]?=some (Mo f g l)) : Rg (w.alloc (.mapIter (some b) l.length #[] l.length)) w.heap.size b f g l #[] :=
 ⟨(MapKept.heap_alloc w _).1,((MapKept.heap_alloc w _).2 b (Array.getElem?_eq_some_iff.1 hb).1).trans hb⟩
theorem rg_next {P : Program} {w : World} {r b : Nat} {l : List (κ × υ)} {seen : Array Nat} (h : Rg w r b f g l seen) (ty : TypeId) :
  ((∀ i,i<l.length→seen.contains i=true)∧(Instr.next (.pointer (some ⟨r,0,none⟩)) false ty).run P w=.ok (.tuple #[.bool false]) w) ∨
  ∃ i p w',l[i]?=some p∧seen.contains i=false∧(Instr.next (.pointer (some ⟨r,0,none⟩)) false ty).run P w=.ok (.tuple #[.bool true,f p.1,g p.2]) w' ∧
   Rg w' r b f g l (seen.push i)∧rgLeft l f g (seen.push i)<rgLeft l f g seen∧(∃ w1,(w1=w∨w1=w.drew)∧w'=setBlock w1 r (.mapIter (some b) l.length (seen.push i) l.length)) ∧
   (Instr.entry (.pointer (some ⟨r,0,none⟩))).run P w'=.ok (.tuple #[f p.1,g p.2]) w':=by
 obtain ⟨hr,hb⟩:=h
 have hne : b≠r:=by
  intro e
  rw [← e,hb] at hr
  cases hr
 unfold Mo at hb
 rcases run_next_at (P:=P) w ty r b l.length l.length seen _ _ hr hb (ents_born l) (Nat.le_refl _) with ⟨h0,hrun⟩ | ⟨e,he,w1,hw1,hrun⟩
 ·refine .inl ⟨fun i hi=>?_,hrun⟩
  have:=all_seen _ seen h0 ⟨f l[i].1,g l[i].2,i⟩ (by
   rw [List.toList_toArray]
   refine List.mem_of_getElem? (i:=i) ?_
   rw [ents_get,List.getElem?_eq_getElem hi]
   simp)
  exact this
 ·obtain ⟨i,p,hp,rfl,hs⟩:=mo_left he
  have hr1 : w1.heap[r]?=some (.mapIter (some b) l.length seen l.length):=by rcases hw1 with rfl | rfl<;>exact hr
  have hb1 : w1.heap[b]?=some (.map (ents f g l 0).toArray l.length):=by rcases hw1 with rfl | rfl<;>exact hb
  have hg1 : Rg (setBlock w1 r (.mapIter (some b) l.length (seen.push i) l.length)) r b f g l (seen.push i) :=
   ⟨setBlock_heap hr1,(setBlock_far hne).trans hb1⟩
  refine .inr ⟨i,p,_,hp,hs,hrun,hg1,left_shrinks _ _ _ he,⟨w1,hw1,rfl⟩, ?_⟩
  refine run_entry_at _ r b l.length seen _ _ ⟨f p.1,g p.2,i⟩ hg1.1 hg1.2 ?_ ?_
  ·rw [List.toList_toArray]
   refine List.mem_of_getElem? (i:=i) ?_
   rw [ents_get,hp]
   simp
  ·rw [List.toList_toArray]
   exact ents_nodup l 0
end
section
variable {κ υ : Type} [DecidableEq κ] {f : κ→Value} {g : υ→Value}
def kpos (l : List (κ × υ)) (x : κ) : Option Nat:=l.findIdx? fun p=>decide (x=p.1)
def kget (l : List (κ × υ)) (x : κ) : Option υ:=(l.find? fun p=>decide (x=p.1)).map (·.2)
def kset : List (κ × υ)→κ→υ→List (κ × υ)
 | [],x,v=>[(x,v)]
 | p :: l,x,v=>if x=p.1 then (x,v) :: l else p :: kset l x v
theorem findAsking_ents {P : Program} {kt : TypeId} (K : KL P kt f) (x : κ) (w : World) : ∀ (l : List (κ × υ)) (n i : Nat),
  (Instr.findAsking kt (f x) (ents f g l n) i).run P w=.ok ((l.findIdx? fun p=>decide (x=p.1)).bind fun j=>(l[j]?).map fun p=>(i+j,g p.2)) w
 | [],n,i=>by simp [ents,Instr.findAsking]
 | p :: l,n,i=>by
  rw [ents,Instr.findAsking]
  simp only [Sem.run_bind,K.eq x p.1 w,Result.andThen]
  by_cases h : x=p.1
  ·simp [h,List.findIdx?_cons]
  ·simp only [h,decide_false,Bool.false_eq_true,if_false]
   rw [findAsking_ents K x w l (n+1) (i+1),List.findIdx?_cons]
   simp only [h,decide_false,Bool.false_eq_true,if_false]
   cases List.findIdx? (fun p=>decide (x=p.fst)) l with
   | none=>rfl
   | some j=>simp [Nat.add_assoc,Nat.add_comm 1 j]
theorem findKey_ents {P : Program} {kt : TypeId} (K : KL P kt f) (x : κ) (w : World) (l : List (κ × υ)) :
  (Instr.findKey kt (f x) (ents f g l 0)).run P w=.ok ((kpos l x).bind fun j=>(l[j]?).map fun p=>(j,g p.2)) w:=by
 obtain ⟨d,hd,hn⟩:=K.und
 cases l with
 | nil=>simp [Instr.findKey,run_underlying hd,ents,Instr.findNow,kpos]
 | cons p l =>
  have e : Instr.findNow d (f x) (ents f g (p :: l) 0) 0=none:=by simp [ents,Instr.findNow,hn]
  have:=findAsking_ents (g:=g) K x w (p :: l) 0 0
  simp only [Nat.zero_add] at this
  simp only [Instr.findKey,Sem.run_bind,run_underlying hd,Result.andThen,e,this]
  rfl
theorem kpos_lt {l : List (κ × υ)} {x : κ} {j : Nat} (h : kpos l x=some j) : ∃ u,l[j]?=some (x,u)∧kget l x=some u:=by
 unfold kpos at h
 induction l generalizing j with
 | nil=>simp at h
 | cons p l ih =>
  rw [List.findIdx?_cons] at h
  by_cases e : x=p.1
  ·simp only [e,decide_true,if_true,Option.some.injEq] at h
   subst h
   exact ⟨p.2,by simp [e],by simp [kget,e]⟩
  ·simp only [e,decide_false,Bool.false_eq_true,if_false] at h
   cases h2 : List.findIdx? (fun p=>decide (x=p.fst)) l with
   | none=>rw [h2] at h; simp at h
   | some i =>
    rw [h2] at h
    simp at h
    subst h
    obtain ⟨u,h3,h4⟩:=ih h2
    refine ⟨u,by simpa using h3, ?_⟩
    unfold kget at h4 ⊢
    rw [List.find?_cons]
    simpa [e] using h4
theorem kpos_none {l : List (κ × υ)} {x : κ} (h : kpos l x=none) : kget l x=none∧∀ p ∈ l,p.1≠x:=by
 unfold kpos at h
 rw [List.findIdx?_eq_none_iff] at h
 refine ⟨?_,fun p hp e=>?_⟩
 ·unfold kget
  rw [Option.map_eq_none_iff,List.find?_eq_none]
  intro p hp
  simp [h p hp]
 ·have:=h p hp
  simp [e] at this
theorem kset_none {l : List (κ × υ)} {x : κ} (h : kpos l x=none) (v : υ) : kset l x v=l++[(x,v)]:=by
 have:=(kpos_none h).2
 clear h
 induction l with
 | nil=>rfl
 | cons p l ih =>
  rw [kset,if_neg (fun e=>this p (by simp) e.symm),ih (fun q hq=>this q (List.mem_cons_of_mem _ hq)),List.cons_append]
theorem kset_some {l : List (κ × υ)} {x : κ} {j : Nat} (h : kpos l x=some j) (v : υ) : kset l x v=l.set j (x,v):=by
 unfold kpos at h
 induction l generalizing j with
 | nil=>simp at h
 | cons p l ih =>
  rw [List.findIdx?_cons] at h
  by_cases e : x=p.1
  ·simp only [e,decide_true,if_true,Option.some.injEq] at h
   subst h
   simp [kset,e]
  ·simp only [e,decide_false,Bool.false_eq_true,if_false] at h
   cases h2 : List.findIdx? (fun p=>decide (x=p.fst)) l with
   | none=>rw [h2] at h; simp at h
   | some i =>
    rw [h2] at h
    simp at h
    subst h
    rw [kset,if_neg e,ih h2]
    rfl
theorem kget_kset (l : List (κ × υ)) (x y : κ) (v : υ) : kget (kset l x v) y=if y=x then some v else kget l y:=by
 induction l with
 | nil=>by_cases h : y=x<;>simp [kset,kget,h]
 | cons p l ih =>
  rw [kset]
  by_cases h : x=p.1
  ·rw [if_pos h]
   by_cases h2 : y=x
   ·simp [kget,h2]
   ·have : y≠p.1:=fun e=>h2 (e.trans h.symm)
    simp [kget,h2,this]
  ·rw [if_neg h]
   by_cases h2 : y=p.1
   ·have : y≠x:=fun e=>h (e.symm.trans h2)
    simp [kget,h2,Ne.symm h]
   ·have e1 : kget (p :: kset l x v) y=kget (kset l x v) y:=by simp [kget,h2]
    have e2 : kget (p :: l) y=kget l y:=by simp [kget,h2]
    rw [e1,e2,ih]
theorem kset_keys (l : List (κ × υ)) (x : κ) (v : υ) : ∀ p ∈ kset l x v,p.1=x∨p.1 ∈ l.map (·.1):=by
 induction l with
 | nil=>intro p hp; simp [kset] at hp; simp [hp]
 | cons q l ih =>
  intro p hp
  rw [kset] at hp
  by_cases h : x=q.1
  ·rw [if_pos h] at hp
   rcases List.mem_cons.1 hp with rfl | h2
   ·exact .inl rfl
   ·exact .inr (List.mem_cons_of_mem _ (List.mem_map_of_mem h2))
  ·rw [if_neg h] at hp
   rcases List.mem_cons.1 hp with rfl | h2
   ·exact .inr (by simp)
   ·rcases ih p h2 with h3 | h3
    ·exact .inl h3
    ·exact .inr (List.mem_cons_of_mem _ h3)
theorem kset_nodup {l : List (κ × υ)} (h : (l.map (·.1)).Nodup) (x : κ) (v : υ) : ((kset l x v).map (·.1)).Nodup:=by
 induction l with
 | nil=>simp [kset]
 | cons q l ih =>
  rw [List.map_cons,List.nodup_cons] at h
  rw [kset]
  by_cases e : x=q.1
  ·rw [if_pos e]
   simp only [List.map_cons,List.nodup_cons]
   rw [e]
   exact h
  ·rw [if_neg e,List.map_cons,List.nodup_cons]
   refine ⟨fun hm=>?_,ih h.2⟩
   obtain ⟨p,hp,h3⟩:=List.mem_map.1 hm
   rcases kset_keys l x v p hp with h4 | h4
   ·exact e (h4.symm.trans h3)
   ·exact h.1 (h3 ▸ h4)
theorem kget_iff {l : List (κ × υ)} (h : (l.map (·.1)).Nodup) (x : κ) (u : υ) : kget l x=some u↔(x,u) ∈ l:=by
 induction l with
 | nil=>simp [kget]
 | cons q l ih =>
  rw [List.map_cons,List.nodup_cons] at h
  by_cases e : x=q.1
  ·have e1 : kget (q :: l) x=some q.2:=by simp [kget,e]
   rw [e1,List.mem_cons]
   constructor
   ·rintro h2
    cases h2
    exact .inl (by rw [e])
   ·rintro (h2 | h2)
    ·rw [← h2]
    ·exact absurd (List.mem_map.2 ⟨(x,u),h2,e⟩) h.1
  ·have e1 : kget (q :: l) x=kget l x:=by simp [kget,e]
   rw [e1,ih h.2,List.mem_cons]
   exact ⟨.inr,fun h2=>h2.resolve_left (fun h3=>e (by rw [← h3]))⟩
theorem mo_lookup {P : Program} {t kt et : TypeId} (K : KL P kt f) (ht : P.underlying t=some (.map kt et)) {w : World} {b : Nat} {l : List (κ × υ)} (hb : w.heap[b]?=some (Mo f g l)) (x : κ) (z : υ) (hz : (zeroValue et).run P w=.ok (g z) w) (c : Bool) :
  (Instr.lookup t (.map (some b)) (f x) c).run P w=.ok (if c then .tuple #[g ((kget l x).getD z),.bool (kget l x).isSome] else g ((kget l x).getD z)) w:=by
 have hf:=findKey_ents (g:=g) K x w l
 unfold Mo at hb
 have hk:=K.chk (ents f g l 0).toArray.isEmpty x w
 cases hp : kpos l x with
 | none =>
  rw [hp] at hf
  rw [(kpos_none hp).1]
  simp only [Option.bind_none] at hf
  simp only [Instr.lookup,Sem.run_bind,run_underlying ht,MapKept.run_getObj_map hb,Result.andThen,hk,List.toList_toArray,hf,hz,Sem.run_pure]
  rfl
 | some j =>
  obtain ⟨u,h1,h2⟩:=kpos_lt hp
  rw [hp] at hf
  rw [h2]
  simp only [Option.bind_some,h1,Option.map_some] at hf
  simp only [Instr.lookup,Sem.run_bind,run_underlying ht,MapKept.run_getObj_map hb,Result.andThen,hk,List.toList_toArray,hf,hz,Sem.run_pure]
  rfl
def kat (l : List (κ × υ)) (x : κ) : Nat:=(kpos l x).getD l.length
def ktouch (l : List (κ × υ)) (x : κ) (z : υ) : List (κ × υ):=kset l x ((kget l x).getD z)
theorem ktouch_at (l : List (κ × υ)) (x : κ) (z : υ) : (ktouch l x z)[kat l x]?=some (x,(kget l x).getD z):=by
 unfold ktouch kat
 cases hp : kpos l x with
 | none=>rw [kset_none hp]; simp
 | some j =>
  obtain ⟨u,h1,h2⟩:=kpos_lt hp
  have hlt : j<l.length:=(List.getElem?_eq_some_iff.1 h1).1
  rw [kset_some hp]
  simp [hlt]
theorem ktouch_set (l : List (κ × υ)) (x : κ) (z v : υ) : (ktouch l x z).set (kat l x) (x,v)=kset l x v:=by
 unfold ktouch kat
 cases hp : kpos l x with
 | none=>rw [kset_none hp,kset_none hp]; simp
 | some j=>rw [kset_some hp,kset_some hp]; simp
theorem mo_entry {P : Program} {t kt et : TypeId} (K : KL P kt f) (ht : P.underlying t=some (.map kt et)) {w : World} {b : Nat} {l : List (κ × υ)} (hb : w.heap[b]?=some (Mo f g l)) (x : κ) (z : υ) (hz : (zeroValue et).run P w=.ok (g z) w) :
  (Instr.mapEntry t (.map (some b)) (f x)).run P w=.ok (.tuple #[g ((kget l x).getD z),.int .i64 (kat l x : Nat)]) (setBlock w b (Mo f g (ktouch l x z))):=by
 have hf:=findKey_ents (g:=g) K x w l
 have hb0:=hb
 unfold Mo at hb
 have hk:=K.chk false x w
 unfold kat ktouch
 cases hp : kpos l x with
 | none =>
  rw [hp] at hf
  rw [(kpos_none hp).1]
  simp only [Option.bind_none] at hf
  simp only [Instr.mapEntry,Sem.run_bind,run_underlying ht,MapKept.run_getObj_map hb,Result.andThen,hk,List.toList_toArray,hf,hz,Sem.run_pure,MapKept.run_setObj_map _ hb]
  rw [kset_none hp]
  have e : Mo f g (l++[(x,z)])=.map ((ents f g l 0).toArray.push { key:=f x,val:=g z,born:=l.length }) (l.length+1):=by
   rw [Mo,ents_append]
   simp [ents]
  simp only [Option.getD_none]
  rw [e]
  rfl
 | some j =>
  obtain ⟨u,h1,h2⟩:=kpos_lt hp
  rw [hp] at hf
  rw [h2]
  simp only [Option.bind_some,h1,Option.map_some] at hf
  have hkey : ((((ents f g l 0).toArray)[j]?).map (·.key)).getD (f x)=f x:=by
   rw [List.getElem?_toArray,ents_get,h1]
   rfl
  have hborn : ((((ents f g l 0).toArray)[j]?).map fun e=>(e.born : Int)).getD 0=(j : Int):=by
   rw [List.getElem?_toArray,ents_get,h1]
   simp
  simp only [Instr.mapEntry,Sem.run_bind,run_underlying ht,MapKept.run_getObj_map hb,Result.andThen,hk,List.toList_toArray,hf,hkey,hborn,Instr.keyThatStays,K.bits x,if_true,Sem.run_pure,MapKept.run_setObj_map _ hb]
  simp only [Option.getD_some]
  rw [kset_some hp]
  have e : Mo f g (l.set j (x,u))=.map ((ents f g l 0).toArray.modify j fun e=>{ e with key:=f x }) l.length:=by
   rw [Mo,ents_set,List.length_set]
   simp only [Obj.map.injEq,and_true]
   rw [← List.modify_toArray]
   apply Array.ext_getElem?
   intro i
   rw [Array.getElem?_modify,Array.getElem?_modify]
   by_cases hi : j=i
   ·subst hi
    rw [List.getElem?_toArray,ents_get,h1]
    simp
   ·simp [hi]
  rw [e]
  rfl
theorem mo_store {P : Program} {t : TypeId} {w : World} {b : Nat} {l : List (κ × υ)} {x : κ} {z : υ} (hb : w.heap[b]?=some (Mo f g (ktouch l x z))) (v : υ) :
  (Instr.entryStore t (.map (some b)) (.int .i64 (kat l x : Nat)) (g v)).run P w=.ok () (setBlock w b (Mo f g (kset l x v))):=by
 have hat:=ktouch_at l x z
 have hset:=ktouch_set l x z v
 generalize ktouch l x z=m at *
 generalize kat l x=j at *
 have hlt : j<m.length:=(List.getElem?_eq_some_iff.1 hat).1
 unfold Mo at hb
 have hfi : (ents f g m 0).toArray.findIdx? (fun e=>((e.born : Int) == (j : Int)))=some j:=by
  rw [List.findIdx?_toArray,List.findIdx?_eq_some_iff_getElem]
  have hl : j<(ents f g m 0).length:=by rw [ents_length]; exact hlt
  have key : ∀ i (hi : i<(ents f g m 0).length),((ents f g m 0)[i]'hi).born=i:=by
   intro i hi
   have:=ents_get (f:=f) (g:=g) m 0 i
   rw [List.getElem?_eq_getElem hi] at this
   have hi2 : i<m.length:=by rw [ents_length] at hi; exact hi
   rw [List.getElem?_eq_getElem hi2] at this
   simp at this
   rw [this]
  refine ⟨hl, ?_,fun i hi=>?_⟩
  ·simp [key j hl]
  ·have:=key i (Nat.lt_trans hi hl)
   simp [this]
   omega
 have e : Mo f g (kset l x v)=.map ((ents f g m 0).toArray.modify j fun e=>{ e with val:=g v }) m.length:=by
  rw [← hset,Mo,ents_set,List.length_set]
  simp only [Obj.map.injEq,and_true]
  rw [← List.modify_toArray]
  apply Array.ext_getElem?
  intro i
  rw [Array.getElem?_modify,Array.getElem?_modify]
  by_cases hi : j=i
  ·subst hi
   rw [List.getElem?_toArray,ents_get,hat]
   simp
  ·simp [hi]
 have ha : (asInt (.int .i64 (j : Int))).run P w=.ok (j : Int) w:=rfl
 rw [e]
 simp only [Instr.entryStore,Sem.run_bind,MapKept.run_getObj_map hb,Result.andThen,ha,hfi,MapKept.run_setObj_map _ hb]
 rfl
end
end Go.Proofs.YtopfedbhkfdjkaaGreatDoor


/- Solids in plain Lean: triangles over any points, their edges, closedness, the list of points, the number of shells. No program in sight. -/
namespace Go.Proofs.YtopfedbhkfdjkaaGreatDoor
open Go Go.RowKit
structure Tr (α : Type) where
 a : α
 b : α
 c : α
deriving DecidableEq
section
variable {α β : Type}
def Tr.map (f : α→β) (t : Tr α) : Tr β:=⟨f t.a,f t.b,f t.c⟩
def Tr.turn (t : Tr α) : Tr α:=⟨t.a,t.c,t.b⟩
def Tr.edges (t : Tr α) : List (α × α):=[(t.a,t.b),(t.b,t.c),(t.c,t.a)]
def edges (l : List (Tr α)) : List (α × α):=l.flatMap Tr.edges
theorem edges_length (l : List (Tr α)) : (edges l).length=l.length * 3:=by
 induction l with
 | nil=>rfl
 | cons t l ih =>
  show (t.edges++edges l).length=_
  rw [List.length_append,ih,List.length_cons]
  simp [Tr.edges]; omega
variable [DecidableEq α] [DecidableEq β]
def cnt (es : List (α × α)) (x : α × α) : Int:=(es.count x : Int) - (es.count (x.2,x.1) : Int)
def openE (es : List (α × α)) : Bool:=es.any fun e=>decide (e.1≠e.2) && decide (cnt es e≠0)
def openT (l : List (Tr α)) : Bool:=openE (edges l)
theorem cnt_swap (es : List (α × α)) (x : α × α) : cnt es (x.2,x.1) = - cnt es x:=by
 obtain ⟨a,b⟩:=x
 unfold cnt
 dsimp only
 omega
theorem cnt_same (es : List (α × α)) (a : α) : cnt es (a,a)=0:=by unfold cnt; simp
theorem cnt_nil (x : α × α) : cnt [] x=0:=rfl
theorem cnt_le (es : List (α × α)) (x : α × α) : cnt es x≤es.length∧- (es.length : Int)≤cnt es x:=by
 have h1:=List.count_le_length (a:=x) (l:=es)
 have h2:=List.count_le_length (a:=(x.2,x.1)) (l:=es)
 unfold cnt
 omega
theorem cnt_snoc (es : List (α × α)) (e x : α × α) : cnt (es++[e]) x=cnt es x + (if x=e then 1 else 0) - (if x=(e.2,e.1) then 1 else 0):=by
 unfold cnt
 rw [List.count_append,List.count_append,List.count_singleton,List.count_singleton]
 by_cases h1 : x=e
 ·subst h1
  by_cases h2 : x=(x.2,x.1)
  ·have h3 : (x.2,x.1)=x:=h2.symm
   simp [← h2]
  ·have h3 : ¬ ((x.2,x.1)=x):=fun h=>h2 h.symm
   have h4 : ¬ (x=(x.2,x.1)):=h2
   simp [h2,h3,Ne.symm h2]
   omega
 ·have h3 : (e == x)=false:=by simpa using fun h=>h1 h.symm
  by_cases h2 : x=(e.2,e.1)
  ·have h4 : e=(x.2,x.1):=by rw [h2]
   have h5 : (e == (x.2,x.1))=true:=by simpa using h4
   rw [h3,h5]
   simp [h1,← h2]
   omega
  ·have h4 : (e == (x.2,x.1))=false:=by
    simp only [beq_eq_false_iff_ne,ne_eq]
    intro h
    exact h2 (by rw [h])
   rw [h3,h4]
   simp [h1,h2]
structure MI (m : List ((α × α) × Int)) (es : List (α × α)) : Prop where
 nodup : (m.map (·.1)).Nodup
 val : ∀ x,(kget m x).getD 0=cnt es x
 key : ∀ x u,(x,u) ∈ m→x ∈ es∨(x.2,x.1) ∈ es
 has : ∀ x ∈ es,∃ u,(x,u) ∈ m
theorem MI.nil : MI ([] : List ((α × α) × Int)) []:=⟨by simp,fun x=>rfl,by simp,by simp⟩
def mput (m : List ((α × α) × Int)) (e : α × α) (d : Int) : List ((α × α) × Int):=kset m e ((kget m e).getD 0+d)
theorem mem_kset {κ υ : Type} [DecidableEq κ] {l : List (κ × υ)} {x : κ} {v : υ} {p : κ × υ} (h : p ∈ kset l x v) : p=(x,v)∨p ∈ l:=by
 induction l with
 | nil=>simp [kset] at h; exact .inl h
 | cons q l ih =>
  rw [kset] at h
  by_cases e : x=q.1
  ·rw [if_pos e] at h
   rcases List.mem_cons.1 h with h | h
   ·exact .inl h
   ·exact .inr (List.mem_cons_of_mem _ h)
  ·rw [if_neg e] at h
   rcases List.mem_cons.1 h with h | h
   ·exact .inr (by rw [h]; simp)
   ·rcases ih h with h | h
    ·exact .inl h
    ·exact .inr (List.mem_cons_of_mem _ h)
theorem kget_mem {κ υ : Type} [DecidableEq κ] {l : List (κ × υ)} {x : κ} {u : υ} (h : kget l x=some u) : (x,u) ∈ l:=by
 induction l with
 | nil=>simp [kget] at h
 | cons q l ih =>
  by_cases e : x=q.1
  ·have e1 : kget (q :: l) x=some q.2:=by simp [kget,e]
   rw [e1] at h
   cases h
   rw [e]
   simp
  ·have e1 : kget (q :: l) x=kget l x:=by simp [kget,e]
   rw [e1] at h
   exact List.mem_cons_of_mem _ (ih h)
theorem MI.put {m : List ((α × α) × Int)} {es : List (α × α)} (h : MI m es) (e : α × α) : MI (mput (mput m e 1) (e.2,e.1) (-1)) (es++[e]):=by
 have hval : ∀ x,(kget (mput (mput m e 1) (e.2,e.1) (-1)) x).getD 0=cnt (es++[e]) x:=by
  intro x
  unfold mput
  rw [kget_kset,kget_kset,kget_kset,cnt_snoc]
  by_cases h1 : x=(e.2,e.1)
  ·rw [if_pos h1,← h1]
   simp only [Option.getD_some]
   by_cases h2 : x=e
   ·rw [if_pos h2,if_pos h2,Option.getD_some,h.val,if_pos trivial,h2]
    omega
   ·rw [if_neg h2,if_neg h2,h.val,if_pos trivial]
    omega
  ·rw [if_neg h1,if_neg h1]
   by_cases h2 : x=e
   ·rw [if_pos h2,if_pos h2,Option.getD_some,h.val,h2]
    omega
   ·rw [if_neg h2,if_neg h2,h.val]
    omega
 refine ⟨kset_nodup (kset_nodup h.nodup _ _) _ _,hval,fun x u hx=>?_,fun x hx=>?_⟩
 ·rcases mem_kset hx with hx | hx
  ·cases hx
   exact .inr (by simp)
  ·rcases mem_kset hx with hx | hx
   ·cases hx
    exact .inl (by simp)
   ·rcases h.key x u hx with h1 | h1
    ·exact .inl (by simp [h1])
    ·exact .inr (by simp [h1])
 ·have : ∃ u,kget (mput (mput m e 1) (e.2,e.1) (-1)) x=some u:=by
   unfold mput
   rw [kget_kset]
   by_cases h1 : x=(e.2,e.1)
   ·exact ⟨_,if_pos h1⟩
   ·rw [if_neg h1,kget_kset]
    by_cases h2 : x=e
    ·exact ⟨_,if_pos h2⟩
    ·rw [if_neg h2]
     rcases List.mem_append.1 hx with h3 | h3
     ·obtain ⟨u,hu⟩:=h.has x h3
      exact ⟨u,(kget_iff h.nodup x u).2 hu⟩
     ·simp at h3
      exact absurd h3 h2
  obtain ⟨u,hu⟩:=this
  exact ⟨u,kget_mem hu⟩
theorem MI.le {m : List ((α × α) × Int)} {es : List (α × α)} (h : MI m es) (x : α × α) : (kget m x).getD 0≤es.length∧- (es.length : Int)≤(kget m x).getD 0:=by
 rw [h.val]
 exact cnt_le es x
theorem MI.open_iff {m : List ((α × α) × Int)} {es : List (α × α)} (h : MI m es) : openE es=true↔∃ p ∈ m,p.2≠0∧p.1.1≠p.1.2:=by
 unfold openE
 rw [List.any_eq_true]
 constructor
 ·rintro ⟨e,he,h1⟩
  simp only [Bool.and_eq_true,decide_eq_true_eq] at h1
  obtain ⟨u,hu⟩:=h.has e he
  have h2:=h.val e
  rw [(kget_iff h.nodup e u).2 hu] at h2
  exact ⟨_,hu,by simp at h2; rw [h2]; exact h1.2,h1.1⟩
 ·rintro ⟨⟨x,u⟩,hp,h1,h2⟩
  have h3:=h.val x
  rw [(kget_iff h.nodup x u).2 hp] at h3
  simp only [Option.getD_some] at h3
  have h1' : u≠0:=h1
  have h2' : x.1≠x.2:=h2
  rcases h.key x u hp with h4 | h4
  ·refine ⟨x,h4, ?_⟩
   simp only [Bool.and_eq_true,decide_eq_true_eq]
   exact ⟨h2',by rw [← h3]; exact h1'⟩
  ·refine ⟨_,h4, ?_⟩
   simp only [Bool.and_eq_true,decide_eq_true_eq]
   refine ⟨fun e=>h2' e.symm, ?_⟩
   rw [cnt_swap,← h3]
   omega
theorem MI.not_open {m : List ((α × α) × Int)} {es : List (α × α)} (h : MI m es) (hn : ∀ p ∈ m,¬ (p.2≠0∧p.1.1≠p.1.2)) : openE es=false:=by
 cases ho : openE es with
 | false=>rfl
 | true =>
  obtain ⟨p,hp,h1⟩:=h.open_iff.1 ho
  exact absurd h1 (hn p hp)
/-! ### Shells: each point with its root -/
end
end Go.Proofs.YtopfedbhkfdjkaaGreatDoor


/- Fans, turned triangles and prisms in plain Lean. No program in sight. -/
namespace Go.Proofs.YtopfedbhkfdjkaaGreatDoor
open Go Go.RowKit
section
variable {α β : Type}
def fanFrom (a : α) : List α→List (Tr α)
 | b :: c :: r=>⟨a,b,c⟩ :: fanFrom a (c :: r)
 | _=>[]
def fanL : List α→List (Tr α)
 | a :: r=>fanFrom a r
 | []=>[]
theorem fanFrom_snoc (a x c : α) : ∀ m : List α,fanFrom a (m++[x,c])=fanFrom a (m++[x])++[⟨a,x,c⟩]
 | []=>rfl
 | [b]=>rfl
 | b :: d :: m=>by
  show Tr.mk a b d :: fanFrom a (d :: m++[x,c])=Tr.mk a b d :: fanFrom a (d :: m++[x])++[⟨a,x,c⟩]
  rw [fanFrom_snoc a x c (d :: m)]
  rfl
theorem fanL_take (l : List α) (k : Nat) (h2 : 2≤k) (hk : k<l.length) : fanL (l.take (k+1))=fanL (l.take k)++[⟨l[0],l[k - 1],l[k]⟩]:=by
 obtain ⟨a,r,rfl⟩ : ∃ a r,l=a :: r:=by
  cases l with
  | nil=>simp at hk
  | cons a r=>exact ⟨a,r,rfl⟩
 obtain ⟨j,rfl⟩ : ∃ j,k=j+2:=⟨k - 2,by omega⟩
 simp only [List.length_cons] at hk
 have e1 : (a :: r).take (j+2+1)=a :: (r.take j++[r[j],r[j+1]]):=by
  rw [List.take_succ_cons,List.take_succ_eq_append_getElem (by omega),List.take_succ_eq_append_getElem (by omega),List.append_assoc]
  rfl
 have e2 : (a :: r).take (j+2)=a :: (r.take j++[r[j]]):=by
  rw [List.take_succ_cons,List.take_succ_eq_append_getElem (by omega)]
 rw [e1,e2]
 show fanFrom a _=fanFrom a _++_
 rw [fanFrom_snoc]
 rfl
theorem fanL_two (l : List α) (h : l.length≤2) : fanL l=[]:=by
 match l,h with
 | [],_=>rfl
 | [_],_=>rfl
 | [_,_],_=>rfl
theorem fanFrom_length (a : α) : ∀ r : List α,(fanFrom a r).length=r.length - 1
 | []=>rfl
 | [_]=>rfl
 | b :: c :: r=>by
  show (fanFrom a (c :: r)).length+1=_
  rw [fanFrom_length a (c :: r)]
  simp
theorem fanL_length (l : List α) : (fanL l).length=l.length - 2:=by
 cases l with
 | nil=>rfl
 | cons a r=>show (fanFrom a r).length=_; rw [fanFrom_length]; simp
theorem fanFrom_map (f : α→β) (a : α) : ∀ r : List α,fanFrom (f a) (r.map f)=(fanFrom a r).map (Tr.map f)
 | []=>rfl
 | [_]=>rfl
 | b :: c :: r=>by
  have:=fanFrom_map f a (c :: r)
  show Tr.mk (f a) (f b) (f c) :: fanFrom (f a) ((c :: r).map f)=_
  rw [this]
  rfl
theorem fanL_map (f : α→β) (l : List α) : fanL (l.map f)=(fanL l).map (Tr.map f):=by
 cases l with
 | nil=>rfl
 | cons a r=>exact fanFrom_map f a r
def sides (l q : List α) (n : Nat) : Nat→List (Tr α)
 | 0=>[]
 | k+1=>sides l q n k++match l[k]?,l[(k+1) % n]?,q[(k+1) % n]?,q[k]? with
  | some a,some b,some c,some d=>[⟨a,b,c⟩,⟨a,c,d⟩]
  | _,_,_,_=>[]
def prismL (l q : List α) : List (Tr α):=(fanL l).map Tr.turn++fanL q++sides l q l.length l.length
theorem sides_step {l q : List α} {n k : Nat} {a b c d : α} (h1 : l[k]?=some a) (h2 : l[(k+1) % n]?=some b) (h3 : q[(k+1) % n]?=some c) (h4 : q[k]?=some d) :
  sides l q n (k+1)=sides l q n k++[⟨a,b,c⟩,⟨a,c,d⟩]:=by
 rw [sides,h1,h2,h3,h4]
theorem sides_map (f : α→β) (l q : List α) (n : Nat) : ∀ k,sides (l.map f) (q.map f) n k=(sides l q n k).map (Tr.map f)
 | 0=>rfl
 | k+1=>by
  rw [sides,sides,sides_map f l q n k,List.map_append,List.getElem?_map,List.getElem?_map,List.getElem?_map,List.getElem?_map]
  congr 1
  cases l[k]?<;>cases l[(k+1) % n]?<;>cases q[(k+1) % n]?<;>cases q[k]?<;>rfl
theorem prismL_map (f : α→β) (l q : List α) : prismL (l.map f) (q.map f)=(prismL l q).map (Tr.map f):=by
 unfold prismL
 rw [fanL_map,fanL_map,List.length_map,sides_map,List.map_append,List.map_append]
 simp [Function.comp_def,Tr.turn,Tr.map]
theorem sides_length (l q : List α) (n : Nat) (hq : q.length=n) (hl : l.length=n) : ∀ k,k≤n→(sides l q n k).length=2 * k
 | 0,_=>rfl
 | k+1,h=>by
  have ih:=sides_length l q n hq hl k (by omega)
  have hm : (k+1) % n<n:=Nat.mod_lt _ (by omega)
  rw [sides_step (List.getElem?_eq_getElem (by omega)) (List.getElem?_eq_getElem (by omega)) (List.getElem?_eq_getElem (by omega)) (List.getElem?_eq_getElem (by omega)),List.length_append,ih]
  simp
  omega
end
end Go.Proofs.YtopfedbhkfdjkaaGreatDoor


/- The leaders of points in plain Lean: what following leaders finds, what joining two of them does; solids under a map of the points that keeps them apart. No program in sight. -/
namespace Go.Proofs.YtopfedbhkfdjkaaGreatDoor
open Go Go.RowKit
section
variable {α β : Type}
def e2 (f : α→β) (e : α × α) : β × β:=(f e.1,f e.2)
theorem edges_map (f : α→β) (l : List (Tr α)) : edges (l.map (Tr.map f))=(edges l).map (e2 f):=by
 induction l with
 | nil=>rfl
 | cons t l ih =>
  show Tr.edges (Tr.map f t)++edges (l.map (Tr.map f))=(t.edges++edges l).map (e2 f)
  rw [ih,List.map_append]
  rfl
theorem e2_inj {f : α→β} (hf : ∀ x y,f x=f y→x=y) (x y : α × α) (h : e2 f x=e2 f y) : x=y:=by
 obtain ⟨a,b⟩:=x
 obtain ⟨c,d⟩:=y
 simp only [e2,Prod.mk.injEq] at h
 rw [hf _ _ h.1,hf _ _ h.2]
theorem count_inj {γ δ : Type} [BEq γ] [BEq δ] [LawfulBEq γ] [LawfulBEq δ] {g : γ→δ} (hg : ∀ x y,g x=g y→x=y) (l : List γ) (x : γ) : (l.map g).count (g x)=l.count x:=by
 induction l with
 | nil=>rfl
 | cons y l ih =>
  rw [List.map_cons,List.count_cons,List.count_cons,ih]
  by_cases h : y=x
  ·simp [h]
  ·have : g y≠g x:=fun e=>h (hg _ _ e)
   simp [h,this]
end
section
variable {α β : Type} [DecidableEq α] [DecidableEq β]
/-! ### Under a map of the points that keeps them apart -/
variable {f : α→β} (hf : ∀ x y,f x=f y→x=y)
include hf
theorem cnt_map (es : List (α × α)) (x : α × α) : cnt (es.map (e2 f)) (e2 f x)=cnt es x:=by
 unfold cnt
 rw [count_inj (e2_inj hf) es x]
 have:=count_inj (e2_inj hf) es (x.2,x.1)
 rw [show ((e2 f x).2,(e2 f x).1)=e2 f (x.2,x.1) from rfl,this]
theorem openE_map (es : List (α × α)) : openE (es.map (e2 f))=openE es:=by
 unfold openE
 rw [List.any_map]
 congr 1
 funext e
 simp only [Function.comp]
 rw [cnt_map hf]
 have : decide ((e2 f e).1≠(e2 f e).2)=decide (e.1≠e.2):=by
  by_cases h : e.1=e.2
  ·simp [e2,h]
  ·have : f e.1≠f e.2:=fun e3=>h (hf _ _ e3)
   simp [e2,h,this]
 rw [this]
theorem openT_map (l : List (Tr α)) : openT (l.map (Tr.map f))=openT l:=by
 unfold openT
 rw [edges_map,openE_map hf]
end
end Go.Proofs.YtopfedbhkfdjkaaGreatDoor


/- Words for the walks: slices of triangles; edges and points as keys. -/
namespace Go.Proofs.YtopfedbhkfdjkaaGreatDoor
open Go Go.RowKit
abbrev TV:=Tr SV
def TV.cells (t : TV) : List Value:=t.a.cells++t.b.cells++t.c.cells
def tcs (l : List TV) : List Value:=l.flatMap TV.cells
theorem tv_cells (t : TV) : TV.cells t=[.string t.a.x,.string t.a.y,.string t.a.z,.string t.b.x,.string t.b.y,.string t.b.z,.string t.c.x,.string t.c.y,.string t.c.z]:=rfl
theorem tcs_length (l : List TV) : (tcs l).length=l.length * 9:=by
 induction l with
 | nil=>rfl
 | cons a l ih =>
  show (TV.cells a++tcs l).length=_
  rw [List.length_append,ih,List.length_cons,tv_cells]
  simp; omega
theorem tcs_append (a b : List TV) : tcs (a++b)=tcs a++tcs b:=by simp [tcs]
theorem tcs_one (t : TV) : tcs [t]=TV.cells t:=by simp [tcs]
theorem tcs_get : ∀ (l : List TV) (j : Nat) (t : TV) (i : Nat) (u : Value),l[j]?=some t→(TV.cells t)[i]?=some u→(tcs l)[j * 9+i]?=some u
 | [],_,_,_,_,h,_=>by simp at h
 | a :: l,0,t,i,u,h,hu=>by
  simp at h
  subst h
  have e : tcs (a :: l)=TV.cells a++tcs l:=rfl
  have hi : i<(TV.cells a).length:=(List.getElem?_eq_some_iff.1 hu).1
  rw [e,Nat.zero_mul,Nat.zero_add,List.getElem?_append_left hi,hu]
 | a :: l,j+1,t,i,u,h,hu=>by
  have ih:=tcs_get l j t i u (by simpa using h) hu
  have e : tcs (a :: l)=TV.cells a++tcs l:=rfl
  have e9 : (TV.cells a).length=9:=rfl
  rw [e,List.getElem?_append_right (by omega),e9,show (j+1) * 9+i - 9=j * 9+i by omega,ih]
def Ts (w : World) (v : Value) (l : List TV) : Prop:=Rd w 9 v l.length (tcs l)
theorem Ts.below {w w1 : World} {v : Value} {l : List TV} (h : Ts w v l) (hb : Below w.heap.size w w1) : Ts w1 v l:=Rd.below h hb
theorem Ts.own {w : World} {base : Nat} {e : TypeId} {v : Value} {l : List TV} (h : w.ownsRow base e 9 v l.length (tcs l)) : Ts w v l:=Rd.own h
theorem Ts.open {w : World} {v : Value} {l : List TV} (h : Ts w v l) : ∃ A cap,v=.slice A l.length cap∧l.length≤cap∧cap≤9223372036854775807 ∧
  (0<l.length→∃ b off,A=some ⟨b,off,none⟩∧∀ j t,l[j]?=some t→∀ i u,(TV.cells t)[i]?=some u→w.cell? ⟨b,off + (j * 9+i),none⟩=some u):=by
 obtain ⟨_,A,cap,hv,hn,hc,h⟩:=h
 refine ⟨A,cap,hv,hn,by unfold maxLen at hc; exact hc,fun h0=>?_⟩
 obtain ⟨b,off,hA,hcell⟩:=h h0
 exact ⟨b,off,hA,fun j t hj i u hu=>hcell _ _ (tcs_get l j t i u hj hu)⟩
theorem ts_nine {w : World} {b off j : Nat} {t : TV} (h : ∀ i u,(TV.cells t)[i]?=some u→w.cell? ⟨b,off + (j * 9+i),none⟩=some u) :
  w.cell? ⟨b,off+j * 9,none⟩=some (.string t.a.x)∧w.cell? ⟨b,off+j * 9+1,none⟩=some (.string t.a.y)∧w.cell? ⟨b,off+j * 9+2,none⟩=some (.string t.a.z) ∧
  w.cell? ⟨b,off+j * 9+3,none⟩=some (.string t.b.x)∧w.cell? ⟨b,off+j * 9+4,none⟩=some (.string t.b.y)∧w.cell? ⟨b,off+j * 9+5,none⟩=some (.string t.b.z) ∧
  w.cell? ⟨b,off+j * 9+6,none⟩=some (.string t.c.x)∧w.cell? ⟨b,off+j * 9+7,none⟩=some (.string t.c.y)∧w.cell? ⟨b,off+j * 9+8,none⟩=some (.string t.c.z) :=
 ⟨h 0 _ rfl,h 1 _ rfl,h 2 _ rfl,h 3 _ rfl,h 4 _ rfl,h 5 _ rfl,h 6 _ rfl,h 7 _ rfl,h 8 _ rfl⟩
theorem Ts.nil (w : World) : Ts w (.slice none 0 0) []:=⟨rfl,none,0,rfl,Nat.le_refl _,Nat.zero_le _,fun h=>absurd h (by simp)⟩
theorem Vs.nil (w : World) : Vs w (.slice none 0 0) []:=⟨rfl,none,0,rfl,Nat.le_refl _,Nat.zero_le _,fun h=>absurd h (by simp)⟩
def tle (l : List TV) (k : Nat) : Prop:=∀ t ∈ l,t.a.le k∧t.b.le k∧t.c.le k
def tvalid (t : TV) : Bool:=isVec t.a && isVec t.b && isVec t.c
def ek (e : SV × SV) : Value:=.agg #[.string e.1.x,.string e.1.y,.string e.1.z,.string e.2.x,.string e.2.y,.string e.2.z]
theorem ek_eq (e : SV × SV) : ek e=.agg #[.string e.1.x,.string e.1.y,.string e.1.z,.string e.2.x,.string e.2.y,.string e.2.z]:=rfl
def iv (z : Int) : Value:=.int .i64 z
end Go.Proofs.YtopfedbhkfdjkaaGreatDoor


/- mesh: valid, polygon. -/
namespace Go.Proofs.YtopfedbhkfdjkaaGreatDoor
open Go Go.RowKit
set_option maxHeartbeats 1000000 in
theorem valid1_walk (s : SV) (hs : s.le 40000000) (w : World) (hB : Bw w) :
  Calls Tryz.prog 192 #[s.val] w fun e w'=>e=.returned (.bool (!isVec s))∧Below w.heap.size w w':=by
 have H:=Lib.hid (fun w hB=>vValid_walk s hs w hB)
 clear hs
 unfold SV.val at *
 generalize s.x=x1 at *
 generalize s.y=x2 at *
 generalize s.z=x3 at *
 generalize isVec s=r at *
 go_enter Tryz.func192,Tryz.ntmps192
 go_wp2_with fail
 refine (H.out _ (hB.below bel)).mono ?_
 rintro e w1 ⟨rfl,g1⟩
 have B1:=bn (w:=w) bel g1
 clear g1
 go_wp2
 go_ret
 exact ⟨by cases r<;>rfl,bel⟩
def badAt (l : List SV) : Int:=match l.findIdx? (fun s => !isVec s) with | some j=>j | none => -1
theorem badAt_none {l : List SV} (h : l.all isVec=true) : badAt l = -1:=by
 unfold badAt
 have : l.findIdx? (fun s => !isVec s)=none:=by
  rw [List.findIdx?_eq_none_iff]
  intro x hx
  rw [List.all_eq_true.1 h x hx]
  rfl
 rw [this]
theorem badAt_at {l : List SV} {k : Nat} (hk : k<l.length) (h : (l.take k).all isVec=true) (hb : isVec l[k]=false) : badAt l=(k : Int):=by
 unfold badAt
 have : l.findIdx? (fun s => !isVec s)=some k:=by
  rw [List.findIdx?_eq_some_iff_getElem]
  refine ⟨hk,by rw [hb]; rfl,fun j hj=>?_⟩
  have:=List.all_eq_true.1 h l[j] (by
   rw [List.mem_take_iff_getElem]
   exact ⟨j,by omega,rfl⟩)
  rw [this]
  decide
 rw [this]
theorem badAt_ge (l : List SV) : (decide (badAt l ≥ 0)) = !(l.all isVec):=by
 cases h : l.all isVec with
 | true=>rw [badAt_none h]; rfl
 | false =>
  unfold badAt
  cases h2 : l.findIdx? (fun s => !isVec s) with
  | some j=>simp
  | none =>
   rw [List.findIdx?_eq_none_iff] at h2
   have : l.all isVec=true:=List.all_eq_true.2 (fun x hx=>by
    have:=h2 x hx
    cases h3 : isVec x<;>simp_all)
   rw [this] at h
   cases h
set_option maxHeartbeats 1000000 in
theorem indexBad_walk (v : Value) (l : List SV) (w : World) (hB : Bw w) (hv : Vs w v l) (hs : ∀ s ∈ l,s.le 40000000) :
  Calls Tryz.prog 124 #[v,.func (.func 192) #[] #[]] w fun e w'=>e=.returned (.int .i64 (badAt l))∧Below w.heap.size w w':=by
 obtain ⟨A,cap,rfl,hn,hc,hcell⟩:=hv.open
 go_enter Tryz.func124,Tryz.ntmps124
 go_wp2
 go_loopw [8] (fun ii wr=>∃ k : Nat,k≤l.length∧ii=.int .i64 k∧Hid ((l.take k).all isVec=true)∧Below w.heap.size w wr) (fun ii _=>l.length - (intOf ii).toNat)
 case atStart=>exact ⟨0,Nat.zero_le _,rfl,Lib.hid rfl,Below.refl _ _⟩
 case round =>
  obtain ⟨k,hk,rfl,hd,hb⟩:=hrel
  by_cases hlt : k<l.length
  ·obtain ⟨b,off,rfl,hcl⟩:=hcell (by omega)
   have hg : l[k]?=some l[k]:=List.getElem?_eq_getElem hlt
   obtain ⟨c0,c1,c2⟩:=hcl k _ hg
   have hle:=hs l[k] (List.getElem_mem hlt)
   clear hg hcl hcell
   obtain ⟨s,hs0⟩ : ∃ s,s=l[k]:=⟨_,rfl⟩
   rw [← hs0] at c0 c1 c2 hle
   have d0:=cell_below hb c0
   have d1:=cell_below hb c1
   have d2:=cell_below hb c2
   have HV:=Lib.hid (fun w hB=>valid1_walk s hle w hB)
   unfold SV.val at HV
   have ht : Hid (isVec s=true→(l.take (k+1)).all isVec=true):=Lib.hid (fun h=>by
    rw [List.take_succ_eq_append_getElem hlt,List.all_append,hd.out,← hs0]
    simp [h])
   have hf : Hid (isVec s=false→badAt l=(k : Int)):=Lib.hid (fun h=>by
    rw [hs0] at h
    exact badAt_at hlt hd.out h)
   clear hs0 hle c0 c1 c2 hs
   generalize s.x=x1 at *
   generalize s.y=x2 at *
   generalize s.z=x3 at *
   generalize hr : isVec s=r at *
   clear hr
   go_wp2_with fail
   refine (HV.out _ (hB.below bel)).mono ?_
   rintro e w1 ⟨rfl,g1⟩
   have B1:=bn (w:=w) bel g1
   clear g1
   cases r
   ·have HF:=Lib.hid (hf.out rfl)
    clear hf ht
    go_wp2
    go_ret
    exact ⟨ret_i64 HF.out.symm,bel⟩
   ·have HT:=Lib.hid (ht.out rfl)
    clear hf ht
    go_wp2
    go_roundw
    case rel=>exact ⟨k+1,by omega,by go_num,HT,bel⟩
    case measure=>simp [intOf]; omega
  ·obtain rfl : k=l.length:=by omega
   have hall:=hd.out
   rw [List.take_length] at hall
   have HA:=Lib.hid hall
   clear hall hd
   go_wp2
   go_ret
   exact ⟨ret_i64 (badAt_none HA.out).symm,bel⟩
set_option maxHeartbeats 1000000 in
theorem anyBad_walk (v : Value) (l : List SV) (w : World) (hB : Bw w) (hv : Vs w v l) (hs : ∀ s ∈ l,s.le 40000000) :
  Calls Tryz.prog 79 #[v,.func (.func 192) #[] #[]] w fun e w'=>e=.returned (.bool (!(l.all isVec)))∧Below w.heap.size w w':=by
 have H:=Lib.hid (fun w hB hv=>indexBad_walk v l w hB hv hs)
 have HG:=Lib.hid (badAt_ge l)
 obtain ⟨A,cap,rfl,hn,hc,hcell⟩:=hv.open
 clear hcell hn hc hs
 generalize badAt l=z at *
 generalize l.all isVec=r at *
 go_enter Tryz.func79,Tryz.ntmps79
 go_wp2_with fail
 refine (H.out _ (hB.below bel) (hv.below bel)).mono ?_
 rintro e w1 ⟨rfl,g1⟩
 have B1:=bn (w:=w) bel g1
 clear g1
 go_wp2
 go_ret
 exact ⟨by have:=HG.out; simp at this ⊢; exact this,bel⟩
set_option maxHeartbeats 1000000 in
theorem mvalid_walk (v : Value) (l : List SV) (w : World) (hB : Bw w) (hv : Vs w v l) (hs : ∀ s ∈ l,s.le 40000000) :
  Calls Tryz.prog 161 #[v] w fun e w'=>e=.returned (.bool (l.all isVec))∧Below w.heap.size w w':=by
 have H:=Lib.hid (fun w hB hv=>anyBad_walk v l w hB hv hs)
 obtain ⟨A,cap,rfl,hn,hc,hcell⟩:=hv.open
 clear hcell hn hc hs
 generalize l.all isVec=r at *
 go_enter Tryz.func161,Tryz.ntmps161
 go_wp2_with fail
 refine (H.out _ (hB.below bel) (hv.below bel)).mono ?_
 rintro e w1 ⟨rfl,g1⟩
 have B1:=bn (w:=w) bel g1
 clear g1
 go_wp2
 go_ret
 exact ⟨by cases r<;>rfl,bel⟩
def polC (l : List SV) (n : Int) : Int:=if l.length<3 then 9 else if 256<l.length∨512<n then 8 else if l.all isVec then 0 else 1
set_option maxHeartbeats 1000000 in
theorem polygon_walk (v : Value) (l : List SV) (n : Int) (w : World) (hB : Bw w) (hv : Vs w v l) (hs : ∀ s ∈ l,s.le 40000000) :
  Calls Tryz.prog 125 #[v,.int .i64 n] w fun e w'=>e=.returned (.int .i64 (polC l n))∧Below w.heap.size w w':=by
 have H:=Lib.hid (fun w hB hv=>mvalid_walk v l w hB hv hs)
 have H0 : Hid (l.length<3→polC l n=9):=Lib.hid (fun h=>by unfold polC; rw [if_pos h])
 have H1 : Hid (¬ l.length<3→(256<l.length∨512<n)→polC l n=8):=Lib.hid (fun h h2=>by unfold polC; rw [if_neg h,if_pos h2])
 have H2 : Hid (¬ l.length<3→¬ (256<l.length∨512<n)→l.all isVec=true→polC l n=0):=Lib.hid (fun h h2 h3=>by unfold polC; rw [if_neg h,if_neg h2,if_pos h3])
 have H3 : Hid (¬ l.length<3→¬ (256<l.length∨512<n)→l.all isVec=false→polC l n=1):=Lib.hid (fun h h2 h3=>by unfold polC; rw [if_neg h,if_neg h2,h3]; rfl)
 obtain ⟨A,cap,rfl,hn,hc,hcell⟩:=hv.open
 clear hcell hs
 generalize polC l n=z at *
 generalize l.all isVec=r at *
 generalize l.length=m at *
 by_cases h0 : m<3
 ·have E:=Lib.hid (H0.out h0)
  clear H0 H1 H2 H3
  go_enter Tryz.func125,Tryz.ntmps125
  go_wp2
  go_ret
  exact ⟨ret_i64 E.out.symm,bel⟩
 ·by_cases h1 : 256<m
  ·have E:=Lib.hid (H1.out h0 (.inl h1))
   clear H0 H1 H2 H3
   go_enter Tryz.func125,Tryz.ntmps125
   go_wp2
   go_ret
   exact ⟨ret_i64 E.out.symm,bel⟩
  ·by_cases h2 : 512<n
   ·have E:=Lib.hid (H1.out h0 (.inr h2))
    clear H0 H1 H2 H3
    go_enter Tryz.func125,Tryz.ntmps125
    go_wp2
    go_ret
    exact ⟨ret_i64 E.out.symm,bel⟩
   ·have E2:=Lib.hid (H2.out h0 (by omega))
    have E3:=Lib.hid (H3.out h0 (by omega))
    clear H0 H1 H2 H3
    go_enter Tryz.func125,Tryz.ntmps125
    go_wp2_with fail
    refine (H.out _ (hB.below bel) (hv.below bel)).mono ?_
    rintro e w1 ⟨rfl,g1⟩
    have B1:=bn (w:=w) bel g1
    clear g1
    cases r
    ·have E:=Lib.hid (E3.out rfl)
     clear E2 E3
     go_wp2
     go_ret
     exact ⟨ret_i64 E.out.symm,bel⟩
    ·have E:=Lib.hid (E2.out rfl)
     clear E2 E3
     go_wp2
     go_ret
     exact ⟨ret_i64 E.out.symm,bel⟩
end Go.Proofs.YtopfedbhkfdjkaaGreatDoor


/- mesh: fan, turned. -/
namespace Go.Proofs.YtopfedbhkfdjkaaGreatDoor
open Go Go.RowKit
theorem info_tri : (Tryz.prog.info? 36).map (fun i=>(i.zero,i.size,i.bytes))=some (some (.agg #[.string ⟨#[]⟩,.string ⟨#[]⟩,.string ⟨#[]⟩,.string ⟨#[]⟩,.string ⟨#[]⟩,.string ⟨#[]⟩,.string ⟨#[]⟩,.string ⟨#[]⟩,.string ⟨#[]⟩]),9,144):=by kernel_rfl
theorem info_vec : (Tryz.prog.info? 26).map (fun i=>(i.zero,i.size,i.bytes))=some (some (.agg #[.string ⟨#[]⟩,.string ⟨#[]⟩,.string ⟨#[]⟩]),3,48):=by kernel_rfl
section
variable {P : Program} {ops : Array Oper} {o : Oper} {a : Act} {K : Act→World→Prop} {Q : Exit→Act→World→Prop} {E : Prop}
theorem step_append_box {w0 X : World} (base : Nat) (hgd : o.guard=none) (s x : Operand) (t e : TypeId) (z : Value) (size bytes : Nat)
  (ho : o.op=.call { callee:=.builtin .append,args:=#[s,x],argTypes:=#[t,t] })
  (ht : P.underlying t=some (.slice e)) (hinfo : (P.info? e).map (fun i=>(i.zero,i.size,i.bytes))=some (some z,size,bytes)) (hz : z.cells.size=size) (hsz : 0<size) (hb0 : 0<bytes)
  (v : Value) (n m : Nat) (xs ys : List Value) (hs : a.eval s=v) (p : Nat) (hx : a.eval x=.slice (some ⟨p,0,none⟩) m m) (hm : 0<m) (hl : ys.length=m * size) (h1 : ∀ y,y ∈ ys→y.oneCell'=true)
  (HO : X.ownsRow base e size v n xs) (hbox : X.heap[p]?=some (.cells ys.toArray e (0,0))) (HB : Below base w0 X) (hbase : base≤X.heap.size) (hbytes : (n+m) * bytes≤140737488355328)
  (h : ∀ v1 w1,w1.ownsRow base e size v1 (n+m) (xs++ys)→Below base w0 w1→X.grownBy w1 v.ownBlock→K (a.put o.dst v1) w1) :
  if Region.wanted o (yielded ops a.tmps)=true then Oper.wp P o a X K Q else E:=by
 obtain ⟨i0,hi,hzz⟩:=Option.map_eq_some_iff.1 hinfo
 simp only [Prod.mk.injEq] at hzz
 obtain ⟨hz0,hz1,hz2⟩:=hzz
 have hlen : n+m≤140737488355328:=Nat.le_trans (Nat.le_mul_of_pos_right _ hb0) hbytes
 refine step_append_lies X hgd s x t ho base e i0 z size bytes ht hi hz0 hz1 hz2 hz hsz v n xs hs HO ⟨p,0,none⟩ m m ys hx hl ?_ h1 hm (by unfold maxLen; omega) hbytes hbase X.heap.size rfl ?_
 ·have hh:=World.news_of_block (w:=X) (B:=p) (cs:=ys.toArray) (t:=e) (fr:=(0,0)) hbox
  simpa using hh
 ·intro g cap w1 hown hg _ _
  exact h _ w1 hown (HB.grown hg hbase (own_base_le HO)) hg
end
section
variable {P : Program} {ops : Array Oper} {rest : List Oper} {o : Oper} {a : Act} {Q : Exit→Act→World→Prop}
theorem append_at {w0 X : World} (base : Nat) (hgd : o.guard=none) (s x : Operand) (t e : TypeId) (z : Value) (size bytes : Nat)
  (ho : o.op=.call { callee:=.builtin .append,args:=#[s,x],argTypes:=#[t,t] })
  (ht : P.underlying t=some (.slice e)) (hinfo : (P.info? e).map (fun i=>(i.zero,i.size,i.bytes))=some (some z,size,bytes)) (hz : z.cells.size=size) (hsz : 0<size) (hb0 : 0<bytes)
  (v : Value) (n m : Nat) (xs ys : List Value) (hs : a.eval s=v) (p : Nat) (hx : a.eval x=.slice (some ⟨p,0,none⟩) m m) (hm : 0<m) (hl : ys.length=m * size) (h1 : ∀ y,y ∈ ys→y.oneCell'=true)
  (HO : X.ownsRow base e size v n xs) (hbox : X.heap[p]?=some (.cells ys.toArray e (0,0))) (HB : Below base w0 X) (hbase : base≤X.heap.size) (hbytes : (n+m) * bytes≤140737488355328)
  (h : ∀ v1 w1,w1.ownsRow base e size v1 (n+m) (xs++ys)→Below base w0 w1→X.grownBy w1 v.ownBlock→wpList P ops Q rest (a.put o.dst v1) w1) : wpList P ops Q (o :: rest) a X:=by
 obtain ⟨i0,hi,hzz⟩:=Option.map_eq_some_iff.1 hinfo
 simp only [Prod.mk.injEq] at hzz
 obtain ⟨hz0,hz1,hz2⟩:=hzz
 have hlen : n+m≤140737488355328:=Nat.le_trans (Nat.le_mul_of_pos_right _ hb0) hbytes
 refine wpList_append_lies X hgd s x t ho base e i0 z size bytes ht hi hz0 hz1 hz2 hz hsz v n xs hs HO ⟨p,0,none⟩ m m ys hx hl ?_ h1 hm (by unfold maxLen; omega) hbytes hbase X.heap.size rfl ?_
 ·have hh:=World.news_of_block (w:=X) (B:=p) (cs:=ys.toArray) (t:=e) (fr:=(0,0)) hbox
  simpa using hh
 ·intro g cap w1 hown hg _ _
  exact h _ w1 hown (HB.grown hg hbase (own_base_le HO)) hg
end
theorem wrap_nat (j : Nat) (h : j≤1000000000000) : IntKind.i64.wrap (j : Int)=(j : Int):=by
 unfold IntKind.wrap
 simp [IntKind.signed,IntKind.bits]
 omega
theorem box_at (W : World) (o : Obj) {p : Nat} (hp : p=W.heap.size) : (W.alloc o).heap[p]?=some o:=by rw [hp]; exact heap_new W o
theorem box_drew {W : World} {o : Obj} {p : Nat} (h : W.heap[p]?=some o) : W.drew.heap[p]?=some o:=h
theorem fanL_step {l : List SV} {k : Nat} {s0 : SV} (h0 : l[0]?=some s0) (h2 : 2≤k) (hk : k<l.length) : ∃ s1 s2,l[k - 1]?=some s1∧l[k]?=some s2∧fanL (l.take (k+1))=fanL (l.take k)++[⟨s0,s1,s2⟩]:=by
 have e : s0=l[0]:=by rw [List.getElem?_eq_getElem (by omega)] at h0; exact (Option.some.inj h0).symm
 exact ⟨_,_,List.getElem?_eq_getElem (by omega),List.getElem?_eq_getElem (by omega),by rw [e]; exact fanL_take l k h2 (by omega)⟩
set_option maxHeartbeats 2000000 in
theorem fan_walk (v : Value) (l : List SV) (w : World) (hB : Bw w) (hv : Vs w v l) (hl : 2≤l.length) (hm : l.length≤1000000) :
  Calls Tryz.prog 128 #[v] w (Ret fun u w'=>Ts w' u (fanL l)∧Below w.heap.size w w'):=by
 obtain ⟨A,cap,rfl,hn,hc,hcell⟩:=hv.open
 obtain ⟨b,off,rfl,hcl⟩:=hcell (by omega)
 clear hcell
 obtain ⟨s0,h00⟩ : ∃ s,l[0]?=some s:=⟨_,List.getElem?_eq_getElem (by omega)⟩
 obtain ⟨a0,a1,a2⟩:=hcl 0 _ h00
 rw [Nat.zero_mul,Nat.add_zero] at a0 a1 a2
 have HCL:=Lib.hid hcl
 obtain ⟨n,hlen⟩ : ∃ n,n=l.length:=⟨_,rfl⟩
 have HL:=Lib.hid hlen
 have HST0:=Lib.hid (fun (k : Nat) (h2 : 2≤k) (hk : k<n)=>fanL_step h00 h2 (show k<l.length by rw [← HL.out]; exact hk))
 rw [← hlen] at hn hl hm ⊢
 have A0:=Lib.hid a0
 have A1:=Lib.hid a1
 have A2:=Lib.hid a2
 clear a0 a1 a2 hcl h00 hv hlen
 go_enter Tryz.func128,Tryz.ntmps128
 go_wp2
 go_loopw [3,4] (fun ov ii wr=>∃ k : Nat,2≤k∧k≤n∧ii=.int .i64 k∧wr.ownsRow w.heap.size 36 9 ov (k - 2) (tcs (fanL (l.take k)))∧Below w.heap.size w wr) (fun _ ii _=>n - (intOf ii).toNat)
 case atStart=>exact ⟨2,by omega,by omega,rfl,by rw [fanL_two _ (by rw [List.length_take]; omega)]; exact World.ownsRow_nil _ _ _ _,Below.refl _ _⟩
 case round =>
  obtain ⟨k,hk2,hk,rfl,hown,hb⟩:=hrel
  by_cases hlt : k<n
  ·obtain ⟨s1,s2,hg1,hg2,hst⟩:=HST0.out k hk2 hlt
   obtain ⟨b0,b1,b2⟩:=HCL.out _ _ hg1
   obtain ⟨c0,c1,c2⟩:=HCL.out _ _ hg2
   have HST:=Lib.hid hst
   clear hst hg1 hg2
   obtain ⟨j,hj⟩ : ∃ j,j=k - 1:=⟨_,rfl⟩
   rw [← hj] at b0 b1 b2
   have hj1 : (k : Int) - 1=(j : Int):=by omega
   have hjw : IntKind.i64.wrap ((k : Int) - 1)=(j : Int):=by rw [hj1]; exact wrap_nat j (by omega)
   have hjv : IntKind.i64.wrap (j : Int)=(j : Int):=wrap_nat j (by omega)
   have hn1 : 0<n:=by omega
   have hj0 : (0 : Int)≤(j : Int):=by omega
   have hj2 : (j : Int)<(n : Int):=by omega
   have hk0 : (0 : Int)≤(k : Int):=by omega
   have hkn : (k : Int)<(n : Int):=by omega
   have hn0 : (0 : Int)<(n : Int):=by omega
   have a0:=A0.out
   have a1:=A1.out
   have a2:=A2.out
   have HC:=Lib.hid (And.intro (And.intro a0 (And.intro a1 a2)) (And.intro (And.intro b0 (And.intro b1 b2)) (And.intro c0 (And.intro c1 c2))))
   have d0:=cell_below hb a0
   have d1:=cell_below hb a1
   have d2:=cell_below hb a2
   have d3:=cell_below hb b0
   have d4:=cell_below hb b1
   have d5:=cell_below hb b2
   have d6:=cell_below hb c0
   have d7:=cell_below hb c1
   have d8:=cell_below hb c2
   clear a0 a1 a2 b0 b1 b2 c0 c1 c2 hj
   have HTS : Hid (TV.cells ⟨s0,s1,s2⟩=[.string s0.x,.string s0.y,.string s0.z,.string s1.x,.string s1.y,.string s1.z,.string s2.x,.string s2.y,.string s2.z]):=Lib.hid rfl
   generalize s0.x=x0 at *
   generalize s0.y=y0 at *
   generalize s0.z=z0 at *
   generalize s1.x=x1 at *
   generalize s1.y=y1 at *
   generalize s1.z=z1 at *
   generalize s2.x=x2 at *
   generalize s2.y=y2 at *
   generalize s2.z=z2 at *
   have hsz:=hb.size
   go_wp2_with fail
   go_region_held3 (fun w'=>w'.cell? ⟨b,off,none⟩=some (.string x0)∧w'.cell? ⟨b,off+1,none⟩=some (.string y0)∧w'.cell? ⟨b,off+2,none⟩=some (.string z0) ∧
     w'.cell? ⟨b,off+j * 3,none⟩=some (.string x1)∧w'.cell? ⟨b,off+j * 3+1,none⟩=some (.string y1)∧w'.cell? ⟨b,off+j * 3+2,none⟩=some (.string z1) ∧
     w'.cell? ⟨b,off+k * 3,none⟩=some (.string x2)∧w'.cell? ⟨b,off+k * 3+1,none⟩=some (.string y2)∧w'.cell? ⟨b,off+k * 3+2,none⟩=some (.string z2)∧Below w.heap.size w w')
    ((go_split_ands; exact ⟨cell_below bel HC.out.1.1,cell_below bel HC.out.1.2.1,cell_below bel HC.out.1.2.2,cell_below bel HC.out.2.1.1,cell_below bel HC.out.2.1.2.1,cell_below bel HC.out.2.1.2.2,cell_below bel HC.out.2.2.1,cell_below bel HC.out.2.2.2.1,cell_below bel HC.out.2.2.2.2,bel⟩))
    ((refine step_append_box (w0:=w) w.heap.size (by rfl) _ _ 22 36 _ 9 144 (by rfl) Tryz.underlying22 info_tri rfl (by omega) (by omega) _ (k - 2) 1 (tcs (fanL (l.take k))) [.string x0,.string y0,.string z0,.string x1,.string y1,.string z1,.string x2,.string y2,.string z2] (by rfl) wr.heap.size (by rfl) (by omega) (by rfl) (by simp [Value.oneCell']) (by first | exact (hown.alloc _).drew | exact hown.drew.alloc _) (by first | exact box_drew (box_at _ _ rfl) | exact box_at _ _ rfl) bel (by (try simp)<;>omega) (by omega) ?_; intro v1 w1 hown1 hb1 hg1))
   have hown2 : w1.ownsRow w.heap.size 36 9 v1 (k+1 - 2) (tcs (fanL (l.take (k+1)))):=by
    rw [HST.out,tcs_append,tcs_one,HTS.out,show k+1 - 2=k - 2+1 by omega]
    exact hown1
   clear hown1 hown
   go_wp2
   go_roundw
   case rel=>exact ⟨k+1,by omega,by omega,by go_num,hown2,hb1⟩
   case measure=>simp [intOf]; omega
  ·obtain rfl : k=n:=by omega
   have hown2 : wr.ownsRow w.heap.size 36 9 u3 (fanL l).length (tcs (fanL l)):=by
    have e : l.take k=l:=by rw [HL.out]; exact List.take_length
    rw [e] at hown
    rw [fanL_length,← HL.out]
    exact hown
   clear hown
   go_wp2
   go_ret
   exact ⟨_,rfl,Ts.own hown2,hb⟩
theorem tle_take {l : List TV} {k : Nat} {j : Nat} {t : TV} (h : tle l k) (ht : l[j]?=some t) : t.a.le k∧t.b.le k∧t.c.le k:=h t (List.mem_of_getElem? ht)
theorem turn_take {l : List TV} {k : Nat} (hk : k<l.length) : ∃ t,l[k]?=some t∧(l.take (k+1)).map Tr.turn=(l.take k).map Tr.turn++[Tr.turn t]:=by
 refine ⟨l[k],List.getElem?_eq_getElem hk, ?_⟩
 rw [List.take_succ_eq_append_getElem hk,List.map_append]
 rfl
set_option maxHeartbeats 4000000 in
set_option maxRecDepth 100000 in
theorem turned_walk (v : Value) (l : List TV) (w : World) (hB : Bw w) (hv : Ts w v l) (hm : l.length≤1000000) :
  Calls Tryz.prog 127 #[v] w (Ret fun u w'=>Ts w' u (l.map Tr.turn)∧Below w.heap.size w w'):=by
 obtain ⟨A,cap,rfl,hn,hc,hcell⟩:=hv.open
 have HCL:=Lib.hid hcell
 obtain ⟨n,hlen⟩ : ∃ n,n=l.length:=⟨_,rfl⟩
 have HL:=Lib.hid hlen
 have HST0:=Lib.hid (fun (k : Nat) (hk : k<n)=>turn_take (show k<l.length by rw [← HL.out]; exact hk))
 rw [← hlen] at hn hm ⊢
 clear hcell hv hlen
 go_enter Tryz.func127,Tryz.ntmps127
 go_wp2
 go_loopw [3,8] (fun ov ii wr=>∃ k : Nat,k≤n∧ii=.int .i64 k∧wr.ownsRow w.heap.size 36 9 ov k (tcs ((l.take k).map Tr.turn))∧Below w.heap.size w wr) (fun _ ii _=>n - (intOf ii).toNat)
 case atStart=>exact ⟨0,by omega,rfl,World.ownsRow_nil _ _ _ _,Below.refl _ _⟩
 case round =>
  obtain ⟨k,hk,rfl,hown,hb⟩:=hrel
  by_cases hlt : k<n
  ·obtain ⟨t,hg,hst⟩:=HST0.out k hlt
   obtain ⟨b,off,rfl,hcl⟩:=HCL.out (by rw [← HL.out]; omega)
   obtain ⟨c0,c1,c2,c3,c4,c5,c6,c7,c8⟩:=ts_nine (hcl _ _ hg)
   have HST:=Lib.hid hst
   clear hst hg hcl
   have hk0 : (0 : Int)≤(k : Int):=by omega
   have hkn : (k : Int)<(n : Int):=by omega
   have d0:=cell_below hb c0
   have d1:=cell_below hb c1
   have d2:=cell_below hb c2
   have d3:=cell_below hb c3
   have d4:=cell_below hb c4
   have d5:=cell_below hb c5
   have d6:=cell_below hb c6
   have d7:=cell_below hb c7
   have d8:=cell_below hb c8
   clear c0 c1 c2 c3 c4 c5 c6 c7 c8
   have HTS : Hid (TV.cells t.turn=[.string t.a.x,.string t.a.y,.string t.a.z,.string t.c.x,.string t.c.y,.string t.c.z,.string t.b.x,.string t.b.y,.string t.b.z]):=Lib.hid rfl
   generalize t.a.x=x0 at *
   generalize t.a.y=y0 at *
   generalize t.a.z=z0 at *
   generalize t.b.x=x1 at *
   generalize t.b.y=y1 at *
   generalize t.b.z=z1 at *
   generalize t.c.x=x2 at *
   generalize t.c.y=y2 at *
   generalize t.c.z=z2 at *
   have hsz:=hb.size
   go_wp2_with (at_builtin; refine append_at (w0:=w) w.heap.size rfl (.tmp 12) (.tmp 20) 22 36 _ 9 144 rfl Tryz.underlying22 info_tri rfl (by omega) (by omega) _ k 1 (tcs ((l.take k).map Tr.turn)) [.string x0,.string y0,.string z0,.string x2,.string y2,.string z2,.string x1,.string y1,.string z1] rfl (wr.heap.size+1) rfl (by omega) rfl (by simp [Value.oneCell']) ((hown.alloc _).alloc _) (box_at _ _ (by simp)) bel (by (try simp)<;>omega) (by omega) ?_; intro v1 w1 hown1 hb1 hg1)
   have hown2 : w1.ownsRow w.heap.size 36 9 v1 (k+1) (tcs ((l.take (k+1)).map Tr.turn)):=by
    rw [HST.out,tcs_append,tcs_one,HTS.out]
    exact hown1
   clear hown1 hown
   go_wp2
   go_roundw
   case rel=>exact ⟨k+1,by omega,by go_num,hown2,hb1⟩
   case measure=>simp [intOf]; omega
  ·obtain rfl : k=n:=by omega
   have hown2 : wr.ownsRow w.heap.size 36 9 u3 (l.map Tr.turn).length (tcs (l.map Tr.turn)):=by
    have e : l.take k=l:=by rw [HL.out]; exact List.take_length
    rw [e] at hown
    rw [List.length_map,← HL.out]
    exact hown
   clear hown
   go_wp2
   go_ret
   exact ⟨_,rfl,Ts.own hown2,hb⟩
end Go.Proofs.YtopfedbhkfdjkaaGreatDoor


/- mesh: Fan, plus. -/
namespace Go.Proofs.YtopfedbhkfdjkaaGreatDoor
open Go Go.RowKit
set_option maxHeartbeats 1000000 in
theorem mplus_walk (a b : V3) (ha : a.le 10000000) (hb : b.le 10000000) (w : World) (hB : Bw w) :
  Calls Tryz.prog 70 #[VV a,VV b] w fun e w'=>e=.returned (VV (a.add b))∧Below w.heap.size w w':=by
 have H:=Lib.hid (fun w hB=>vecAdd_walk a b ha hb w hB)
 clear ha hb
 rw [VV_eq,VV_eq,VV_eq] at *
 generalize rtx a.x=x1 at *
 generalize rtx a.y=x2 at *
 generalize rtx a.z=x3 at *
 generalize rtx b.x=y1 at *
 generalize rtx b.y=y2 at *
 generalize rtx b.z=y3 at *
 generalize rtx (a.add b).x=r1 at *
 generalize rtx (a.add b).y=r2 at *
 generalize rtx (a.add b).z=r3 at *
 go_enter Tryz.func70,Tryz.ntmps70
 go_wp2_with fail
 refine (H.out _ (hB.below bel)).mono ?_
 rintro e w1 ⟨rfl,g1⟩
 have hz1 : w.heap.size+2<w1.heap.size:=hzs g1
 have hz1_0 : w.heap.size<w1.heap.size:=by omega
 have hz1_1 : w.heap.size+1<w1.heap.size:=by omega
 have B1:=bn (w:=w) bel g1
 have c1_2_0:=bcv g1 (w.heap.size+1+1) 0 (.string ⟨#[]⟩)
 have f1_2_0:=bfv g1 (w.heap.size+1+1) 0
 have c1_2_1:=bcv g1 (w.heap.size+1+1) 1 (.string ⟨#[]⟩)
 have f1_2_1:=bfv g1 (w.heap.size+1+1) 1
 have c1_2_2:=bcv g1 (w.heap.size+1+1) 2 (.string ⟨#[]⟩)
 have f1_2_2:=bfv g1 (w.heap.size+1+1) 2
 clear g1
 go_wp2
 refine bodyPost_ret (v:=.agg #[.string r1,.string r2,.string r3]) (by simp [results,Tryz.results70,go_sem, *]) rfl ⟨(by first | rfl | rw [hI]),bel⟩
end Go.Proofs.YtopfedbhkfdjkaaGreatDoor


/- slices: Grow of nothing, Concat of two rows of triangles. -/
namespace Go.Proofs.YtopfedbhkfdjkaaGreatDoor
open Go Go.RowKit
theorem run_append_nothing {P : Program} {w : World} (base : Nat) (t ty e : TypeId) (i : TypeInfo) (size c : Nat) (ht : P.underlying t=some (.slice e)) (hi : P.info? e=some i)
  (v : Value) (n : Nat) (xs : List Value) (hown : w.ownsRow base e size v n xs) :
  (Builtin.append_ #[t,t] ty #[v,.slice none 0 c]).run P w=.ok v w:=by
 rcases hown.2 with ⟨rfl,rfl⟩ | ⟨g,cap,cur,rfl,_,_,hnc,_⟩
 ·simp [Builtin.append_,run_underlying ht,sizeOf,typeInfo,hi,Builtin.lenOf,Builtin.firstCells]
 ·simp [Builtin.append_,run_underlying ht,sizeOf,typeInfo,hi,Builtin.lenOf,Builtin.firstCells,hnc,storeCells]
section
variable {P : Program} {ops : Array Oper} {rest : List Oper} {o : Oper} {a : Act} {Q : Exit→Act→World→Prop}
theorem append_rd {w0 X : World} (base : Nat) (hgd : o.guard=none) (s x : Operand) (t e : TypeId) (z : Value) (size bytes : Nat)
  (ho : o.op=.call { callee:=.builtin .append,args:=#[s,x],argTypes:=#[t,t] })
  (ht : P.underlying t=some (.slice e)) (hinfo : (P.info? e).map (fun i=>(i.zero,i.size,i.bytes))=some (some z,size,bytes)) (hz : z.cells.size=size) (hsz : 0<size) (hb0 : 0<bytes)
  (v : Value) (n m : Nat) (xs ys : List Value) (hs : a.eval s=v) (u : Value) (hx : a.eval x=u) (hr : Rd X size u m ys) (h1 : ∀ y,y ∈ ys→y.oneCell'=true)
  (HO : X.ownsRow base e size v n xs) (HB : Below base w0 X) (hbase : base≤X.heap.size) (hbytes : (n+m) * bytes≤140737488355328)
  (h : ∀ v1 w1,w1.ownsRow base e size v1 (n+m) (xs++ys)→Below base w0 w1→X.grownBy w1 v.ownBlock→wpList P ops Q rest (a.put o.dst v1) w1) : wpList P ops Q (o :: rest) a X:=by
 obtain ⟨i0,hi,hzz⟩:=Option.map_eq_some_iff.1 hinfo
 simp only [Prod.mk.injEq] at hzz
 obtain ⟨hz0,hz1,hz2⟩:=hzz
 have hlen : n+m≤140737488355328:=Nat.le_trans (Nat.le_mul_of_pos_right _ hb0) hbytes
 obtain ⟨hl,A,cap,rfl,hn,hc,hcell⟩:=hr
 cases A with
 | none =>
  by_cases h0 : 0<m
  ·obtain ⟨b,off,h2,_⟩:=hcell h0
   cases h2
  ·obtain rfl : m=0:=by omega
   obtain rfl : ys=[]:=List.eq_nil_of_length_eq_zero (by omega)
   have hrun:=run_append_nothing (P:=P) (w:=X) base t o.type e i0 size cap ht hi v n xs HO
   refine Lib.wpList_append_run X hgd s x t t ho _ _ hs hx _ _ hrun ?_
   refine h v X ?_ HB ⟨rfl,rfl,rfl,Nat.le_refl _,fun _ _ _=>rfl⟩
   rw [List.append_nil]
   exact HO
 | some ad =>
  refine wpList_append_own X hgd s x t ho base e i0 z size bytes ht hi hz0 hz1 hz2 hz hsz v n xs hs HO ad m cap ys hx hl ?_ h1 (by unfold maxLen; omega) hbytes hbase ?_
  ·intro j y hy
   have h0 : 0<m:=by
    rcases Nat.eq_zero_or_pos m with h0 | h0
    ·rw [h0,Nat.zero_mul] at hl
     rw [List.eq_nil_of_length_eq_zero hl] at hy
     simp at hy
    ·exact h0
   obtain ⟨b,off,h2,h3⟩:=hcell h0
   cases h2
   have e : (⟨b,off,none⟩ : Addr).add j=⟨b,off+j,none⟩:=by unfold Addr.add; split<;>simp_all
   rw [e]
   exact h3 j y hy
  ·intro v1 w1 hown hg _
   exact h v1 w1 hown (HB.grown hg hbase (own_base_le HO)) hg
end
theorem tcs_one_cell (l : List TV) : ∀ y,y ∈ tcs l→y.oneCell'=true:=by
 intro y hy
 unfold tcs at hy
 obtain ⟨t,_,ht⟩:=List.mem_flatMap.1 hy
 rw [tv_cells] at ht
 simp only [List.mem_cons,List.not_mem_nil,or_false] at ht
 rcases ht with h | h | h | h | h | h | h | h | h<;>rw [h]<;>rfl
set_option maxHeartbeats 2000000 in
theorem growT_walk (n : Nat) (hn : n≤1000000) (w : World) :
  Calls Tryz.prog 162 #[.slice none 0 0,.int .i64 n] w (Ret fun v w'=>w'.ownsRow w.heap.size 36 9 v 0 []∧Below w.heap.size w w'):=by
 have hn0 : (0 : Int)≤(n : Int):=by omega
 have hn1 : (n : Int)≤1000000:=by omega
 by_cases h0 : n=0
 ·subst h0
  go_enter Tryz.func162,Tryz.ntmps162
  go_wp2
  go_ret
  exact ⟨_,rfl,World.ownsRow_nil _ _ _ _,Below.refl _ _⟩
 ·have h1 : ¬ ((n : Int)≤0):=by omega
  have h2 : (0 : Int)<(n : Int):=by omega
  have h3 : 0<n:=by omega
  obtain ⟨i0,hi,hzz⟩:=Option.map_eq_some_iff.1 info_tri
  simp only [Prod.mk.injEq] at hzz
  obtain ⟨hz0,hz1,hz2⟩:=hzz
  have hr:=fun ty=>Lib.run_append_nil_zeros (P:=Tryz.prog) w 22 3 ty 36 i0 _ .i64 .i64 Tryz.underlying22 Tryz.underlying3 hi hz0 n h3 (by omega) (by omega) (by rw [hz2]; omega)
  have hcap : n≤grownCap w n 0 36:=grownCap_ge w n 0 _
  have hcap2 : grownCap w n 0 36≤maxLen:=grownCap_le_maxLen w n 0 _ (by unfold maxLen; omega)
  generalize grownCap w n 0 36=cap at *
  unfold maxLen at hcap2
  have HR:=Lib.hid hr
  have HC:=Lib.hid hcap
  clear hr hi hz0 hz1 hz2
  go_enter Tryz.func162,Tryz.ntmps162
  go_wp2_with (at_builtin; refine Lib.wpList_append_run _ rfl (.tmp 20) (.tmp 21) 22 3 rfl _ _ rfl rfl _ _ (HR.out _) ?_)
  go_ret
  refine ⟨_,rfl,(World.ownsRow_made w _ cap (Nat.le_refl _) (by unfold maxLen; omega) ?_).drew,bel⟩
  have:=HC.out
  simp [Builtin.zeroCells]
  omega
set_option maxHeartbeats 2000000 in
set_option maxRecDepth 100000 in
theorem concatT_walk (p : Nat) (v1 v2 : Value) (l1 l2 : List TV) (h1 : l1.length≤10000) (h2 : l2.length≤10000) (w : World) (hv1 : Ts w v1 l1) (hv2 : Ts w v2 l2) (c0 : w.cell? ⟨p,0,none⟩=some v1) (c1 : w.cell? ⟨p,1,none⟩=some v2) :
  Calls Tryz.prog 126 #[.slice (some ⟨p,0,none⟩) 2 2] w (Ret fun v w'=>w'.ownsRow w.heap.size 36 9 v (l1++l2).length (tcs (l1++l2))∧Below w.heap.size w w'):=by
 obtain ⟨A1,cap1,rfl,hn1,hc1,hcell1⟩:=hv1.open
 obtain ⟨A2,cap2,rfl,hn2,hc2,hcell2⟩:=hv2.open
 clear hcell1 hcell2
 have HL : Hid ((l1++l2).length=l1.length+l2.length):=Lib.hid List.length_append
 have HT : Hid (tcs (l1++l2)=tcs l1++tcs l2):=Lib.hid (tcs_append l1 l2)
 have HV1:=Lib.hid hv1
 have HV2:=Lib.hid hv2
 have HO1:=Lib.hid (tcs_one_cell l1)
 have HO2:=Lib.hid (tcs_one_cell l2)
 unfold Ts at HV1 HV2
 clear hv1 hv2
 generalize l1.length=n1 at *
 generalize l2.length=n2 at *
 generalize tcs l1=xs1 at *
 generalize tcs l2=xs2 at *
 obtain ⟨n,hn⟩ : ∃ n,n=n1+n2:=⟨_,rfl⟩
 have e0 : (0 : Int)≤(n1 : Int):=by omega
 have e2 : (0 : Int)≤(n2 : Int):=by omega
 have e4 : (n1 : Int)≤10000:=by omega
 have e5 : (n2 : Int)≤10000:=by omega
 have e6 : (0 : Int)≤(n1 : Int) + (n2 : Int):=by omega
 have HG : Hid (∀ w,Calls Tryz.prog 162 #[.slice none 0 0,.int .i64 ((n1 : Int) + (n2 : Int))] w (Ret fun v w'=>w'.ownsRow w.heap.size 36 9 v 0 []∧Below w.heap.size w w')):=Lib.hid (fun w=>by
  have:=growT_walk n (by omega) w
  rw [hn] at this
  have e : ((n1+n2 : Nat) : Int)=(n1 : Int) + (n2 : Int):=by omega
  rw [e] at this
  exact this)
 clear hn
 go_enter Tryz.func126,Tryz.ntmps126
 go_wp2
 refine wp_loop_rounds 3 ?_
 rw [rounds_succ]
 go_wp2
 rw [rounds_succ]
 go_wp2
 rw [rounds_succ]
 go_wp2_with fail
 refine (HG.out _).mono ?_
 rintro e w1 ⟨v1,rfl,ho1,g1⟩
 have HW1:=Lib.hid ho1
 clear ho1
 have d0:=cell_below g1 c0
 have d1:=cell_below g1 c1
 have hs1:=g1.size
 go_wp2
 refine wp_loop_rounds 3 ?_
 rw [rounds_succ]
 go_wp2_with (at_builtin; refine append_rd (w0:=w) w.heap.size rfl (.tmp 31) (.tmp 32) 22 36 _ 9 144 rfl Tryz.underlying22 info_tri rfl (by omega) (by omega) _ 0 n1 [] xs1 rfl _ rfl (Rd.below HV1.out g1) HO1.out HW1.out g1 hs1 (by omega) ?_; intro v2 w2 hown2 hb2 hg2)
 have HW2:=Lib.hid hown2
 clear hown2
 have d2:=cell_below hb2 c1
 have hs2:=hb2.size
 go_wp2
 rw [rounds_succ]
 go_wp2_with (at_builtin; refine append_rd (w0:=w) w.heap.size rfl (.tmp 31) (.tmp 32) 22 36 _ 9 144 rfl Tryz.underlying22 info_tri rfl (by omega) (by omega) _ _ n2 _ xs2 rfl _ rfl (Rd.below HV2.out hb2) HO2.out HW2.out hb2 hs2 (by omega) ?_; intro v3 w3 hown3 hb3 hg3)
 have HW3:=Lib.hid hown3
 clear hown3
 go_wp2
 rw [rounds_succ]
 go_wp2
 go_ret
 refine ⟨_,rfl, ?_,hb3⟩
 rw [HL.out,HT.out]
 have:=HW3.out
 rw [Nat.zero_add,List.nil_append] at this
 exact this
end Go.Proofs.YtopfedbhkfdjkaaGreatDoor
