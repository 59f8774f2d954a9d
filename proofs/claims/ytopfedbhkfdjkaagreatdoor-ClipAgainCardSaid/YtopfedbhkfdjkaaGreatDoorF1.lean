
/- rational: Div. -/
import Derived.Test.YtopfedbhkfdjkaaGreatDoorE6
import Derived.Test.YtopfedbhkfdjkaaGreatDoorED
import Derived.Test.YtopfedbhkfdjkaaGreatDoorE7
import Derived.Test.YtopfedbhkfdjkaaGreatDoorE8
import Derived.Test.YtopfedbhkfdjkaaGreatDoorEG
import Derived.Test.YtopfedbhkfdjkaaGreatDoorEB
import Derived.Test.YtopfedbhkfdjkaaGreatDoorEA
import Derived.RangeFuncNested
import Derived.RangeFuncBound
import Derived.RangeFuncCalls
import Derived.RangeFuncBox
import Derived.RangeFuncLeaves
import Derived.Test.YtopfedbhkfdjkaaGreatDoorE4
set_option linter.unusedVariables false
set_option linter.unusedSimpArgs false
namespace Go.Proofs.YtopfedbhkfdjkaaGreatDoor
open Go Go.RowKit
set_option maxHeartbeats 1000000 in
theorem rdiv_walk (x y : Rat) (h0 : y≠0) (hx : rz x≤20000000) (hy : rz y≤20000000) (w : World) (hB : Bw w) :
  Calls Tryz.prog 190 #[FV x,FV y] w fun e w'=>e=.returned (FV (x / y))∧Below w.heap.size w w':=by
 have H1:=Lib.hid (fun w=>rinverse_walk y h0 (by omega) w)
 have H2:=Lib.hid (fun w hB=>rtimes_walk x y⁻¹ hx (by rw [rz_inv]; exact hy) w hB)
 rw [← Rat.div_def] at H2
 obtain ⟨s1,t1,e1⟩:=FV_shape x
 obtain ⟨s2,t2,e2⟩:=FV_shape y
 obtain ⟨s3,t3,e3⟩:=FV_shape (y⁻¹)
 obtain ⟨s4,t4,e4⟩:=FV_shape (x / y)
 rw [e1,e3,e4] at H2
 rw [e2,e3] at H1
 rw [e1,e2,e4]
 clear e1 e2 e3 e4 hx hy h0
 go_enter Tryz.func190,Tryz.ntmps190
 go_wp2
 go_region_held3 (fun w'=>w'.cell? ⟨w.heap.size,0,none⟩=some (.string s1)∧w'.cell? ⟨w.heap.size,1,none⟩=some (.string t1)∧w'.cell? ⟨w.heap.size+1,0,none⟩=some (.string s2)∧w'.cell? ⟨w.heap.size+1,1,none⟩=some (.string t2)∧Below w.heap.size w w')
  ((go_split_ands; refine ⟨?_, ?_, ?_, ?_, ?_⟩<;>first | (go_simp; done) | (exact bcs g1) | (exact bn bel g1) | exact bel))
  (first | (go_at_call 191; refine (H1.out _).mono ?_; rintro e w1 ⟨rfl,g1⟩; have hz1 : w.heap.size+2<w1.heap.size:=hzs g1; have c1_2_0:=bcv g1 (w.heap.size+1+1) 0 (.string ⟨#[]⟩); have f1_2_0:=bfv g1 (w.heap.size+1+1) 0; have c1_2_1:=bcv g1 (w.heap.size+1+1) 1 (.string ⟨#[]⟩); have f1_2_1:=bfv g1 (w.heap.size+1+1) 1) | (go_at_call 187; refine (H2.out _ (hB.below (by go_split_ands; assumption))).mono ?_; rintro e w1 ⟨rfl,g1⟩; have hz1 : w.heap.size+2<w1.heap.size:=hzs g1; have c1_2_0:=bcv g1 (w.heap.size+1+1) 0 (.string ⟨#[]⟩); have f1_2_0:=bfv g1 (w.heap.size+1+1) 0; have c1_2_1:=bcv g1 (w.heap.size+1+1) 1 (.string ⟨#[]⟩); have f1_2_1:=bfv g1 (w.heap.size+1+1) 1))
 go_split_ands
 go_wp2
 refine bodyPost_ret (v:=.agg #[.string s4,.string t4]) (by simp [results,Tryz.results190,go_sem, *]) rfl ⟨(by first | rfl | rw [hI]),bel⟩
set_option maxHeartbeats 1000000 in
theorem apply_47 (x y r : Rat) (hx : rz x≤10000000) (hy : rz y≤10000000) (hr : rz r≤50000000) (h0 : y≠0)
  (hc : ∀ w,Bw w→Calls Tryz.prog 190 #[FV x,FV y] w fun e w'=>e=.returned (FV r)∧Below w.heap.size w w') (w : World) (hB : Bw w) :
  Calls Tryz.prog 73 #[.int .u8 47,.string (rtx x),.string (rtx y)] w fun e w'=>e=.returned (.tuple #[.string (rtx r),.int .i64 0])∧Below w.heap.size w w':=by
 have H1:=Lib.hid (fun w hB=>rboth_walk x y hx hy w hB)
 have H2:=Lib.hid hc
 have H3:=Lib.hid (fun w=>rtext_walk r hr w)
 have hn : ((itx y.num).toList == [48])=false:=by
  rw [ByteArray.toList_eq,itx_toList,itoa_eq_zero]
  exact decide_eq_false fun e=>h0 (Rat.num_eq_zero.1 e)
 obtain ⟨s1,t1,e1⟩:=FV_shape x
 obtain ⟨s3,t3,e3⟩:=FV_shape r
 rw [FV_eq y] at H1 H2
 generalize itx y.num=s2 at *
 generalize dec y.den=t2 at *
 rw [e1] at H1
 rw [e1,e3] at H2
 rw [e3] at H3
 clear e1 e3 hx hy hr hc h0
 generalize rtx x=xs at *
 generalize rtx y=ys at *
 generalize rtx r=rs at *
 have HL:=Lib.hid (fun W b hb=>look_op W b 47 (.func (.func 190) #[] #[]) 3 hb (by rfl))
 go_enter Tryz.func73,Tryz.ntmps73
 go_wp2_with fail
 refine (H1.out _ (hB.below bel)).mono ?_
 rintro e w1 ⟨rfl,g1⟩
 have B1:=bn (w:=w) bel g1
 clear g1
 go_wp2
 go_region_held3 (fun w'=>w'.cell? ⟨w1.heap.size,0,none⟩=some (.string s1)∧w'.cell? ⟨w1.heap.size,1,none⟩=some (.string t1)∧w'.cell? ⟨w1.heap.size+1,0,none⟩=some (.string s2)∧w'.cell? ⟨w1.heap.size+1,1,none⟩=some (.string t2)∧Below w.heap.size w w')
  ((go_split_ands; refine ⟨?_, ?_, ?_, ?_, ?_⟩<;>first | (go_simp; done) | (exact bcs g2) | (exact bn bel g2) | exact bel))
  (first | (go_at_call 120; refine (all_some _).mono ?_; rintro e w2 ⟨_,rfl,⟨b,rfl,hb⟩,g2⟩; have hlk:=HL.out w2 b hb; clear hb) | (go_at_call 190; refine (H2.out _ (hB.below (by go_split_ands; assumption))).mono ?_; rintro e w2 ⟨rfl,g2⟩) | (go_at_call 121; refine (H3.out _).mono ?_; rintro e w2 ⟨rfl,g2⟩))
 go_split_ands
 go_wp2
 go_ret2
 exact ⟨rfl,bel⟩
set_option maxHeartbeats 400000 in
theorem rDiv_walk (x y : Rat) (h0 : y≠0) (hx : rz x≤10000000) (hy : rz y≤10000000) (w : World) (hB : Bw w) :
  Calls Tryz.prog 212 #[.string (rtx x),.string (rtx y)] w fun e w'=>e=.returned (.tuple #[.string (rtx (x / y)),.int .i64 0])∧Below w.heap.size w w':=by
 have hr : rz (x / y)≤50000000:=by have:=rz_div x y; omega
 have H:=Lib.hid (fun w hB=>apply_47 x y (x / y) hx hy hr h0 (fun w hB=>rdiv_walk x y h0 (by omega) (by omega) w hB) w hB)
 clear hr hx hy
 generalize rtx x=xs at *
 generalize rtx y=ys at *
 generalize rtx (x / y)=rs at *
 go_enter Tryz.func212,Tryz.ntmps212
 go_wp2_with fail
 refine (H.out _ (hB.below bel)).mono ?_
 rintro e w1 ⟨rfl,g1⟩
 have B1:=bn (w:=w) bel g1
 clear g1
 go_wp2
 go_ret2
 exact ⟨rfl,bel⟩
end Go.Proofs.YtopfedbhkfdjkaaGreatDoor


/- Solids cut by planes, in plain Lean: the pieces, the section, the caps; both parts are closed, and where their points lie. No program in sight. -/
namespace Go.Proofs.YtopfedbhkfdjkaaGreatDoor
def crossV (p : Pl) (a b : V3) : V3:=a.add ((b.sub a).smul (p.height a / (p.height a - p.height b)))
def upP (p : Pl) (a : V3) : Bool:=decide (0<p.height a)
theorem height_lin (p : Pl) (a b : V3) (k : Rat) : p.height (a.add ((b.sub a).smul k))=p.height a + (p.height b - p.height a) * k:=by
 unfold Pl.height V3.add V3.sub V3.smul V3.dot
 dsimp only
 grind
theorem up_ne {p : Pl} {a b : V3} (ha : upP p a=true) (hb : upP p b=false) : p.height a - p.height b≠0:=by
 unfold upP at ha hb
 have h1:=of_decide_eq_true ha
 have h2:=of_decide_eq_false hb
 grind
theorem cross_height {p : Pl} {a b : V3} (h : p.height a - p.height b≠0) : p.height (crossV p a b)=0:=by
 unfold crossV
 rw [height_lin]
 generalize p.height a=x at *
 generalize p.height b=y at *
 grind
theorem cross_swap {p : Pl} {a b : V3} (h : p.height a - p.height b≠0) : crossV p b a=crossV p a b:=by
 have h2 : p.height b - p.height a≠0:=by grind
 unfold crossV V3.add V3.sub V3.smul
 generalize p.height a=x at *
 generalize p.height b=y at *
 obtain ⟨a1,a2,a3⟩:=a
 obtain ⟨b1,b2,b3⟩:=b
 simp only [V3.mk.injEq]
 refine ⟨?_, ?_, ?_⟩<;>grind
def lone (p : Pl) (a b c : V3) : Tr V3:=⟨a,crossV p a b,crossV p a c⟩
def rest (p : Pl) (a b c : V3) : List (Tr V3):=[⟨crossV p a b,b,c⟩,⟨crossV p a b,c,crossV p a c⟩]
def edgeA (p : Pl) (a b c : V3) (above : Bool) : List (V3 × V3) :=
 if crossV p a b=crossV p a c then [] else if above then [(crossV p a b,crossV p a c)] else [(crossV p a c,crossV p a b)]
def dnT (p : Pl) (t : Tr V3) : List (Tr V3) :=
 match upP p t.a,upP p t.b,upP p t.c with
 | false,false,false=>[t]
 | true,true,true=>[]
 | true,false,false=>rest p t.a t.b t.c
 | false,true,false=>rest p t.b t.c t.a
 | false,false,true=>rest p t.c t.a t.b
 | false,true,true=>[lone p t.a t.b t.c]
 | true,false,true=>[lone p t.b t.c t.a]
 | true,true,false=>[lone p t.c t.a t.b]
def upT (p : Pl) (t : Tr V3) : List (Tr V3) :=
 match upP p t.a,upP p t.b,upP p t.c with
 | false,false,false=>[]
 | true,true,true=>[t]
 | true,false,false=>[lone p t.a t.b t.c]
 | false,true,false=>[lone p t.b t.c t.a]
 | false,false,true=>[lone p t.c t.a t.b]
 | false,true,true=>rest p t.a t.b t.c
 | true,false,true=>rest p t.b t.c t.a
 | true,true,false=>rest p t.c t.a t.b
def seT (p : Pl) (t : Tr V3) : List (V3 × V3) :=
 match upP p t.a,upP p t.b,upP p t.c with
 | false,false,false=>[]
 | true,true,true=>[]
 | true,false,false=>edgeA p t.a t.b t.c true
 | false,true,false=>edgeA p t.b t.c t.a true
 | false,false,true=>edgeA p t.c t.a t.b true
 | false,true,true=>edgeA p t.a t.b t.c false
 | true,false,true=>edgeA p t.b t.c t.a false
 | true,true,false=>edgeA p t.c t.a t.b false
def dnL (p : Pl) (l : List (Tr V3)) : List (Tr V3):=l.flatMap (dnT p)
def upL (p : Pl) (l : List (Tr V3)) : List (Tr V3):=l.flatMap (upT p)
def seL (p : Pl) (l : List (Tr V3)) : List (V3 × V3):=l.flatMap (seT p)
def capX (o : V3) (above : Bool) (x : V3 × V3) : List (Tr V3):=if x.1=o∨x.2=o then [] else [if above then ⟨o,x.2,x.1⟩ else ⟨o,x.1,x.2⟩]
def capL (s : List (V3 × V3)) (above : Bool) : List (Tr V3) :=
 match s with
 | []=>[]
 | x :: s=>(x :: s).flatMap (capX x.1 above)
def underL (p : Pl) (l : List (Tr V3)) : List (Tr V3):=dnL p l++capL (seL p l) false
def overL (p : Pl) (l : List (Tr V3)) : List (Tr V3):=upL p l++capL (seL p l) true
/-! ### Sums over directed edges -/
def Anti (w : V3→V3→Int) : Prop:=∀ a b,w b a = - w a b
theorem Anti.same {w : V3→V3→Int} (h : Anti w) (a : V3) : w a a=0:=by have:=h a a; omega
def We (w : V3→V3→Int) : List (V3 × V3)→Int
 | []=>0
 | e :: l=>w e.1 e.2+We w l
theorem We_append (w : V3→V3→Int) : ∀ (l m : List (V3 × V3)),We w (l++m)=We w l+We w m
 | [],m=>by simp [We]
 | e :: l,m=>by
  show w e.1 e.2+We w (l++m)=_
  rw [We_append w l m]
  show _=w e.1 e.2+We w l+We w m
  omega
theorem We_perm {w : V3→V3→Int} {l m : List (V3 × V3)} (h : l.Perm m) : We w l=We w m:=by
 induction h with
 | nil=>rfl
 | cons e _ ih=>show w e.1 e.2+We w _=w e.1 e.2+We w _; rw [ih]
 | swap e f l=>show w f.1 f.2 + (w e.1 e.2+We w l)=w e.1 e.2 + (w f.1 f.2+We w l); omega
 | trans _ _ h1 h2=>rw [h1,h2]
theorem We_turn {w : V3→V3→Int} (h : Anti w) : ∀ l : List (V3 × V3),We w (l.map fun e=>(e.2,e.1)) = - We w l
 | []=>rfl
 | e :: l=>by
  show w e.2 e.1+We w (l.map fun e=>(e.2,e.1)) = - (w e.1 e.2+We w l)
  rw [We_turn h l,h e.1 e.2]
  omega
theorem count_turn (l : List (V3 × V3)) (x : V3 × V3) : (l.map fun e=>(e.2,e.1)).count x=l.count (x.2,x.1):=by
 induction l with
 | nil=>rfl
 | cons e l ih =>
  rw [List.map_cons,List.count_cons,List.count_cons,ih]
  congr 1
  obtain ⟨e1,e2⟩:=e
  obtain ⟨x1,x2⟩:=x
  by_cases h1 : e2=x1<;>by_cases h2 : e1=x2<;>simp [h1,h2]
theorem closed_sum {l : List (Tr V3)} (hc : openT l=false) {w : V3→V3→Int} (h : Anti w) : We w (edges l)=0:=by
 have hp : (edges l).Perm ((edges l).map fun e=>(e.2,e.1)):=by
  rw [List.perm_iff_count]
  intro x
  rw [count_turn]
  have:=(closed_iff l).1 hc x
  unfold cnt at this
  omega
 have h1:=We_perm (w:=w) hp
 rw [We_turn h] at h1
 omega
theorem dl_anti (x : V3 × V3) : Anti (dl x):=fun a b=>dl_swap x a b
theorem We_cnt (x : V3 × V3) : ∀ l : List (Tr V3),We (dl x) (edges l)=cnt (edges l) x
 | []=>rfl
 | t :: l=>by
  rw [cnt_edges_cons,← We_cnt x l]
  show We (dl x) (t.edges++edges l)=_
  rw [We_append]
  show dl x t.a t.b + (dl x t.b t.c + (dl x t.c t.a+0))+We (dl x) (edges l)=_
  omega
theorem sum_closed {l : List (Tr V3)} (h : ∀ w,Anti w→We w (edges l)=0) : openT l=false :=
 (closed_iff l).2 fun x=>by rw [← We_cnt]; exact h _ (dl_anti x)
theorem We_tri (w : V3→V3→Int) (t : Tr V3) (l : List (Tr V3)) : We w (edges (t :: l))=w t.a t.b+w t.b t.c+w t.c t.a+We w (edges l):=by
 show We w (t.edges++edges l)=_
 rw [We_append]
 show w t.a t.b + (w t.b t.c + (w t.c t.a+0))+We w (edges l)=_
 omega
theorem We_tris (w : V3→V3→Int) (l m : List (Tr V3)) : We w (edges (l++m))=We w (edges l)+We w (edges m):=by
 rw [edges_append,We_append]
theorem We_nil (w : V3→V3→Int) : We w (edges ([] : List (Tr V3)))=0:=rfl
def bta (p : Pl) (w : V3→V3→Int) (a b : V3) : Int :=
 match upP p a,upP p b with
 | false,false=>w a b
 | true,true=>0
 | false,true=>w a (crossV p b a)
 | true,false=>w (crossV p a b) b
def alf (p : Pl) (w : V3→V3→Int) (a b : V3) : Int :=
 match upP p a,upP p b with
 | false,false=>0
 | true,true=>w a b
 | false,true=>w (crossV p b a) b
 | true,false=>w a (crossV p a b)
theorem bta_anti (p : Pl) {w : V3→V3→Int} (h : Anti w) : Anti (bta p w):=by
 intro a b
 unfold bta
 cases ha : upP p a<;>cases hb : upP p b<;>dsimp only
 ·exact h a b
 ·exact h _ _
 ·exact h _ _
 ·omega
theorem alf_anti (p : Pl) {w : V3→V3→Int} (h : Anti w) : Anti (alf p w):=by
 intro a b
 unfold alf
 cases ha : upP p a<;>cases hb : upP p b<;>dsimp only
 ·omega
 ·exact h _ _
 ·exact h _ _
 ·exact h a b
theorem We_edgeA {w : V3→V3→Int} (h : Anti w) (p : Pl) (a b c : V3) (above : Bool) : We w (edgeA p a b c above)=if above then w (crossV p a b) (crossV p a c) else w (crossV p a c) (crossV p a b):=by
 unfold edgeA
 by_cases e : crossV p a b=crossV p a c
 ·rw [if_pos e,e,h.same]
  cases above<;>rfl
 ·rw [if_neg e]
  cases above
  ·simp [We]
  ·simp [We]
theorem We_rest (w : V3→V3→Int) (p : Pl) (a b c : V3) : We w (edges (rest p a b c))=w (crossV p a b) b+w b c+w c (crossV p a b) + (w (crossV p a b) c+w c (crossV p a c)+w (crossV p a c) (crossV p a b)):=by
 unfold rest
 rw [We_tri,We_tri,We_nil]
 dsimp only
 omega
theorem We_lone (w : V3→V3→Int) (p : Pl) (a b c : V3) : We w (edges [lone p a b c])=w a (crossV p a b)+w (crossV p a b) (crossV p a c)+w (crossV p a c) a:=by
 unfold lone
 rw [We_tri,We_nil]
 dsimp only
 omega
theorem cross_du {p : Pl} {a b : V3} (ha : upP p a=false) (hb : upP p b=true) : crossV p a b=crossV p b a:=(cross_swap (by have:=up_ne hb ha; grind)).symm
theorem one_up {w : V3→V3→Int} (h : Anti w) {p : Pl} {u v x : V3} (hu : upP p u=true) (hv : upP p v=false) (hx : upP p x=false) :
  We w (edges (rest p u v x))+We w (edgeA p u v x true)=bta p w u v+bta p w v x+bta p w x u∧We w (edges [lone p u v x]) - We w (edgeA p u v x true)=alf p w u v+alf p w v x+alf p w x u:=by
 rw [We_rest,We_lone,We_edgeA h]
 unfold bta alf
 rw [hu,hv,hx]
 simp only [if_true]
 have h1:=h (crossV p u v) x
 have h2:=h (crossV p u v) (crossV p u x)
 constructor<;>omega
theorem one_dn {w : V3→V3→Int} (h : Anti w) {p : Pl} {u v x : V3} (hu : upP p u=false) (hv : upP p v=true) (hx : upP p x=true) :
  We w (edges [lone p u v x])+We w (edgeA p u v x false)=bta p w u v+bta p w v x+bta p w x u∧We w (edges (rest p u v x)) - We w (edgeA p u v x false)=alf p w u v+alf p w v x+alf p w x u:=by
 rw [We_rest,We_lone,We_edgeA h,cross_du hu hv,cross_du hu hx]
 unfold bta alf
 rw [hu,hv,hx]
 simp only [Bool.false_eq_true,if_false]
 have h1:=h (crossV p v u) x
 have h2:=h (crossV p v u) (crossV p x u)
 constructor<;>omega
theorem tri_sum {w : V3→V3→Int} (h : Anti w) (p : Pl) (t : Tr V3) :
  We w (edges (dnT p t))+We w (seT p t)=bta p w t.a t.b+bta p w t.b t.c+bta p w t.c t.a∧We w (edges (upT p t)) - We w (seT p t)=alf p w t.a t.b+alf p w t.b t.c+alf p w t.c t.a:=by
 obtain ⟨a,b,c⟩:=t
 unfold dnT upT seT
 dsimp only
 cases ha : upP p a<;>cases hb : upP p b<;>cases hc : upP p c<;>dsimp only
 ·rw [We_tri,We_nil]
  unfold bta alf
  rw [ha,hb,hc]
  simp only [We]
  constructor<;>omega
 ·have:=one_up h hc ha hb
  constructor<;>omega
 ·have:=one_up h hb hc ha
  constructor<;>omega
 ·have:=one_dn h ha hb hc
  constructor<;>omega
 ·have:=one_up h ha hb hc
  constructor<;>omega
 ·have:=one_dn h hb hc ha
  constructor<;>omega
 ·have:=one_dn h hc ha hb
  constructor<;>omega
 ·rw [We_tri,We_nil]
  unfold bta alf
  rw [ha,hb,hc]
  simp only [We]
  constructor<;>omega
theorem cut_sum {w : V3→V3→Int} (h : Anti w) (p : Pl) : ∀ l : List (Tr V3),
  We w (edges (dnL p l))+We w (seL p l)=We (bta p w) (edges l)∧We w (edges (upL p l)) - We w (seL p l)=We (alf p w) (edges l)
 | []=>⟨rfl,rfl⟩
 | t :: l=>by
  obtain ⟨h1,h2⟩:=cut_sum h p l
  obtain ⟨h3,h4⟩:=tri_sum h p t
  rw [We_tri,We_tri]
  show We w (edges (dnT p t++dnL p l))+We w (seT p t++seL p l)=_∧We w (edges (upT p t++upL p l)) - We w (seT p t++seL p l)=_
  rw [We_tris,We_tris,We_append]
  constructor<;>omega
def Even (s : List (V3 × V3)) : Prop:=∀ g : V3→Int,We (fun a b=>g b - g a) s=0
theorem We_flat (g : V3→Int) : ∀ l : List (Tr V3),We (fun a b=>g b - g a) (edges l)=0
 | []=>rfl
 | t :: l=>by
  rw [We_tri,We_flat g l]
  omega
theorem diff_anti (g : V3→Int) : Anti (fun a b=>g b - g a):=fun a b=>by dsimp only; omega
theorem section_even {l : List (Tr V3)} (hc : openT l=false) (p : Pl) : Even (seL p l):=fun g=>by
 have h:=diff_anti g
 have h1:=(cut_sum h p l).1
 rw [closed_sum hc (bta_anti p h),We_flat] at h1
 omega
theorem cap_sum {w : V3→V3→Int} (h : Anti w) (o : V3) (above : Bool) : ∀ s : List (V3 × V3),
  We w (edges (s.flatMap (capX o above)))=(if above then -1 else 1) * (We w s - We (fun a b=>w o b - w o a) s)
 | []=>by cases above<;>rfl
 | x :: s=>by
  obtain ⟨a,b⟩:=x
  show We w (edges (capX o above (a,b)++s.flatMap (capX o above)))=_
  rw [We_tris,cap_sum h o above s]
  show _=(if above then -1 else 1) * (w a b+We w s - ((w o b - w o a)+We (fun a b=>w o b - w o a) s))
  have h1:=h o a
  have h2:=h o b
  have h3:=h a b
  have h4:=h.same o
  unfold capX
  dsimp only
  by_cases hq : a=o∨b=o
  ·rw [if_pos hq,We_nil]
   rcases hq with rfl | rfl
   ·cases above<;>simp only [if_true,Bool.false_eq_true,if_false]<;>omega
   ·cases above<;>simp only [if_true,Bool.false_eq_true,if_false]<;>omega
  ·rw [if_neg hq,We_tri,We_nil]
   cases above<;>simp only [if_true,Bool.false_eq_true,if_false]<;>omega
theorem capL_sum {w : V3→V3→Int} (h : Anti w) {s : List (V3 × V3)} (he : Even s) (above : Bool) : We w (edges (capL s above))=(if above then -1 else 1) * We w s:=by
 cases s with
 | nil=>cases above<;>rfl
 | cons x s =>
  show We w (edges ((x :: s).flatMap (capX x.1 above)))=_
  rw [cap_sum h,he (w x.1)]
  cases above<;>simp
theorem under_closed {l : List (Tr V3)} (hc : openT l=false) (p : Pl) : openT (underL p l)=false:=sum_closed fun w h=>by
 have h1:=(cut_sum h p l).1
 rw [closed_sum hc (bta_anti p h)] at h1
 unfold underL
 rw [We_tris,capL_sum h (section_even hc p)]
 simp only [Bool.false_eq_true,if_false]
 omega
theorem over_closed {l : List (Tr V3)} (hc : openT l=false) (p : Pl) : openT (overL p l)=false:=sum_closed fun w h=>by
 have h1:=(cut_sum h p l).2
 rw [closed_sum hc (alf_anti p h)] at h1
 unfold overL
 rw [We_tris,capL_sum h (section_even hc p)]
 simp only [if_true]
 omega
/-! ### Where the points lie -/
def allP (q : V3→Prop) (l : List (Tr V3)) : Prop:=∀ t ∈ l,q t.a∧q t.b∧q t.c
theorem dn_le {p : Pl} {a : V3} (h : upP p a=false) : p.height a≤0:=by
 have:=of_decide_eq_false h
 grind
theorem up_ge {p : Pl} {a : V3} (h : upP p a=true) : 0≤p.height a:=by
 have:=of_decide_eq_true h
 grind
theorem cross_ud {p : Pl} {a b : V3} (ha : upP p a=true) (hb : upP p b=false) : p.height (crossV p a b)=0:=cross_height (up_ne ha hb)
theorem cross_du0 {p : Pl} {a b : V3} (ha : upP p a=false) (hb : upP p b=true) : p.height (crossV p a b)=0:=by rw [cross_du ha hb]; exact cross_ud hb ha
theorem tri_sides (p : Pl) (t : Tr V3) : allP (fun q=>p.height q≤0) (dnT p t)∧allP (fun q=>0≤p.height q) (upT p t)∧∀ e ∈ seT p t,p.height e.1=0∧p.height e.2=0:=by
 have edge0 : ∀ (a b c : V3) (f : Bool),p.height (crossV p a b)=0→p.height (crossV p a c)=0→∀ e ∈ edgeA p a b c f,p.height e.1=0∧p.height e.2=0:=by
  intro a b c f h1 h2 e he
  unfold edgeA at he
  split at he
  ·simp at he
  ·split at he
   ·simp at he; rw [he]; exact ⟨h1,h2⟩
   ·simp at he; rw [he]; exact ⟨h2,h1⟩
 have rest0 : ∀ (q : V3→Prop) (a b c : V3),q (crossV p a b)→q (crossV p a c)→q b→q c→allP q (rest p a b c):=by
  intro q a b c h1 h2 h3 h4 t ht
  unfold rest at ht
  simp at ht
  rcases ht with rfl | rfl
  ·exact ⟨h1,h3,h4⟩
  ·exact ⟨h1,h4,h2⟩
 have lone0 : ∀ (q : V3→Prop) (a b c : V3),q a→q (crossV p a b)→q (crossV p a c)→allP q [lone p a b c]:=by
  intro q a b c h1 h2 h3 t ht
  simp at ht
  subst ht
  exact ⟨h1,h2,h3⟩
 have le0 : ∀ {x : Rat},x=0→x≤0:=fun h=>by rw [h]; exact Rat.le_refl
 have ge0 : ∀ {x : Rat},x=0→0≤x:=fun h=>by rw [h]; exact Rat.le_refl
 have up : ∀ a b c : V3,upP p a=true→upP p b=false→upP p c=false→allP (fun q=>p.height q≤0) (rest p a b c)∧allP (fun q=>0≤p.height q) [lone p a b c]∧∀ e ∈ edgeA p a b c true,p.height e.1=0∧p.height e.2=0:=fun a b c ha hb hc =>
  ⟨rest0 _ a b c (le0 (cross_ud ha hb)) (le0 (cross_ud ha hc)) (dn_le hb) (dn_le hc),lone0 _ a b c (up_ge ha) (ge0 (cross_ud ha hb)) (ge0 (cross_ud ha hc)),edge0 a b c true (cross_ud ha hb) (cross_ud ha hc)⟩
 have dn : ∀ a b c : V3,upP p a=false→upP p b=true→upP p c=true→allP (fun q=>p.height q≤0) [lone p a b c]∧allP (fun q=>0≤p.height q) (rest p a b c)∧∀ e ∈ edgeA p a b c false,p.height e.1=0∧p.height e.2=0:=fun a b c ha hb hc =>
  ⟨lone0 _ a b c (dn_le ha) (le0 (cross_du0 ha hb)) (le0 (cross_du0 ha hc)),rest0 _ a b c (ge0 (cross_du0 ha hb)) (ge0 (cross_du0 ha hc)) (up_ge hb) (up_ge hc),edge0 a b c false (cross_du0 ha hb) (cross_du0 ha hc)⟩
 obtain ⟨a,b,c⟩:=t
 unfold dnT upT seT
 dsimp only
 cases ha : upP p a<;>cases hb : upP p b<;>cases hc : upP p c<;>dsimp only
 ·exact ⟨fun t ht=>by simp at ht; subst ht; exact ⟨dn_le ha,dn_le hb,dn_le hc⟩,fun t ht=>by simp at ht,fun e he=>by simp at he⟩
 ·exact up c a b hc ha hb
 ·exact up b c a hb hc ha
 ·exact dn a b c ha hb hc
 ·exact up a b c ha hb hc
 ·exact dn b c a hb hc ha
 ·exact dn c a b hc ha hb
 ·exact ⟨fun t ht=>by simp at ht,fun t ht=>by simp at ht; subst ht; exact ⟨up_ge ha,up_ge hb,up_ge hc⟩,fun e he=>by simp at he⟩
theorem cut_sides (p : Pl) (l : List (Tr V3)) : allP (fun q=>p.height q≤0) (underL p l)∧allP (fun q=>0≤p.height q) (overL p l)∧∀ e ∈ seL p l,p.height e.1=0∧p.height e.2=0:=by
 have hs : ∀ e ∈ seL p l,p.height e.1=0∧p.height e.2=0:=fun e he=>by
  obtain ⟨t, -,h⟩:=List.mem_flatMap.1 he
  exact (tri_sides p t).2.2 e h
 have cap : ∀ above,∀ t ∈ capL (seL p l) above,p.height t.a=0∧p.height t.b=0∧p.height t.c=0:=by
  intro above t ht
  generalize seL p l=s at *
  cases s with
  | nil=>simp [capL] at ht
  | cons x s =>
   have ho:=(hs x (by simp)).1
   obtain ⟨y,hy,ht⟩:=List.mem_flatMap.1 (show t ∈ (x :: s).flatMap (capX x.1 above) from ht)
   obtain ⟨h1,h2⟩:=hs y hy
   unfold capX at ht
   split at ht
   ·simp at ht
   ·cases above
    ·simp at ht; subst ht; exact ⟨ho,h1,h2⟩
    ·simp at ht; subst ht; exact ⟨ho,h2,h1⟩
 refine ⟨fun t ht=>?_,fun t ht=>?_,hs⟩
 ·rcases List.mem_append.1 (show t ∈ dnL p l++capL (seL p l) false from ht) with h | h
  ·obtain ⟨u, -,h⟩:=List.mem_flatMap.1 h
   exact (tri_sides p u).1 t h
  ·obtain ⟨h1,h2,h3⟩:=cap false t h
   exact ⟨by show p.height t.a≤0; rw [h1]; exact Rat.le_refl,by show p.height t.b≤0; rw [h2]; exact Rat.le_refl,by show p.height t.c≤0; rw [h3]; exact Rat.le_refl⟩
 ·rcases List.mem_append.1 (show t ∈ upL p l++capL (seL p l) true from ht) with h | h
  ·obtain ⟨u, -,h⟩:=List.mem_flatMap.1 h
   exact (tri_sides p u).2.1 t h
  ·obtain ⟨h1,h2,h3⟩:=cap true t h
   exact ⟨by show 0≤p.height t.a; rw [h1]; exact Rat.le_refl,by show 0≤p.height t.b; rw [h2]; exact Rat.le_refl,by show 0≤p.height t.c; rw [h3]; exact Rat.le_refl⟩
end Go.Proofs.YtopfedbhkfdjkaaGreatDoor


/- vector: div, Crossing; clip: crossing, turned. -/
namespace Go.Proofs.YtopfedbhkfdjkaaGreatDoor
open Go Go.RowKit
theorem cbel {X V : World} {B b o : Nat} {v : Value} (g : Below B X V) (hb : b<B) (h : X.cell? ⟨b,o,none⟩=some v) : V.cell? ⟨b,o,none⟩=some v:=(g.cell hb).trans h
set_option maxHeartbeats 400000 in
theorem vdiv_walk (x y : Rat) (h0 : y≠0) (hx : rz x≤10000000) (hy : rz y≤10000000) (w : World) (hB : Bw w) :
  Calls Tryz.prog 193 #[.string (rtx x),.string (rtx y)] w fun e w'=>e=.returned (.string (rtx (x / y)))∧Below w.heap.size w w':=by
 have H:=Lib.hid (fun w hB=>rDiv_walk x y h0 hx hy w hB)
 clear hx hy h0
 generalize rtx x=xs at *
 generalize rtx y=ys at *
 generalize rtx (x / y)=rs at *
 go_enter Tryz.func193,Tryz.ntmps193
 go_wp2_with fail
 refine (H.out _ (hB.below bel)).mono ?_
 rintro e w1 ⟨rfl,g1⟩
 have B1:=bn (w:=w) bel g1
 clear g1
 go_wp2
 go_ret
 exact ⟨rfl,bel⟩
set_option maxRecDepth 100000 in
set_option maxHeartbeats 4000000 in
theorem vcrossing_at (p1 p2 p3 p4 a1 a2 a3 b1 b2 b3 d1 d2 d3 e1 e2 e3 r1 r2 r3 hx hy hd hq : ByteArray) (sx sy : Int) (hne : decide (0<sx)≠decide (0<sy)) (w : World) (hB : Bw w)
  (k0 : (∀ w,Bw w→Calls Tryz.prog 63 #[.agg #[.string p1,.string p2,.string p3,.string p4]] w fun e w'=>e=.returned (.int .i64 0)∧Below w.heap.size w w'))
  (k1 : ∀ W p,Bw W→p=W.heap.size→Calls Tryz.prog 71 #[.slice (some ⟨p,0,none⟩) 2 2] (W.alloc (.cells #[.string a1,.string a2,.string a3,.string b1,.string b2,.string b3] 26)) fun e w'=>e=.returned (.int .i64 0)∧Below (W.alloc (.cells #[.string a1,.string a2,.string a3,.string b1,.string b2,.string b3] 26)).heap.size (W.alloc (.cells #[.string a1,.string a2,.string a3,.string b1,.string b2,.string b3] 26)) w')
  (k2 : (∀ w,Bw w→Calls Tryz.prog 65 #[.agg #[.string p1,.string p2,.string p3,.string p4],.agg #[.string a1,.string a2,.string a3]] w fun e w'=>e=.returned (.string hx)∧Below w.heap.size w w'))
  (k3 : (∀ w,Bw w→Calls Tryz.prog 65 #[.agg #[.string p1,.string p2,.string p3,.string p4],.agg #[.string b1,.string b2,.string b3]] w fun e w'=>e=.returned (.string hy)∧Below w.heap.size w w'))
  (k4 : (∀ w,Bw w→Calls Tryz.prog 64 #[.string hx] w fun e w'=>e=.returned (.int .i64 sx)∧Below w.heap.size w w'))
  (k5 : (∀ w,Bw w→Calls Tryz.prog 64 #[.string hy] w fun e w'=>e=.returned (.int .i64 sy)∧Below w.heap.size w w'))
  (k6 : (∀ w,Bw w→Calls Tryz.prog 117 #[.func (.func 76) #[] #[],.agg #[.string b1,.string b2,.string b3],.agg #[.string a1,.string a2,.string a3]] w fun e w'=>e=.returned (.agg #[.string d1,.string d2,.string d3])∧Below w.heap.size w w'))
  (k7 : (∀ w,Bw w→Calls Tryz.prog 76 #[.string hx,.string hy] w fun e w'=>e=.returned (.string hd)∧Below w.heap.size w w'))
  (k8 : (∀ w,Bw w→Calls Tryz.prog 193 #[.string hx,.string hd] w fun e w'=>e=.returned (.string hq)∧Below w.heap.size w w'))
  (k9 : (∀ w,Bw w→Calls Tryz.prog 74 #[.agg #[.string d1,.string d2,.string d3],.string hq] w fun e w'=>e=.returned (.agg #[.string e1,.string e2,.string e3])∧Below w.heap.size w w'))
  (k10 : (∀ w,Bw w→Calls Tryz.prog 117 #[.func (.func 119) #[] #[],.agg #[.string a1,.string a2,.string a3],.agg #[.string e1,.string e2,.string e3]] w fun e w'=>e=.returned (.agg #[.string r1,.string r2,.string r3])∧Below w.heap.size w w')) :
  Calls Tryz.prog 164 #[.agg #[.string p1,.string p2,.string p3,.string p4],.agg #[.string a1,.string a2,.string a3],.agg #[.string b1,.string b2,.string b3]] w fun e w'=>e=.returned (.tuple #[.agg #[.string r1,.string r2,.string r3],.int .i64 0])∧Below w.heap.size w w':=by
 have K0:=Lib.hid k0
 have K1:=Lib.hid k1
 have K2:=Lib.hid k2
 have K3:=Lib.hid k3
 have K4:=Lib.hid k4
 have K5:=Lib.hid k5
 have K6:=Lib.hid k6
 have K7:=Lib.hid k7
 have K8:=Lib.hid k8
 have K9:=Lib.hid k9
 have K10:=Lib.hid k10
 clear k0 k1 k2 k3 k4 k5 k6 k7 k8 k9 k10
 go_enter Tryz.func164,Tryz.ntmps164
 go_wp2_with fail
 refine (K0.out _ (hB.below bel)).mono ?_
 rintro e w1 ⟨rfl,g1⟩
 have HP1 : Hid (Bk w1 (w.heap.size) [.string p1,.string p2,.string p3,.string p4]):=Lib.hid (Bk.below bkk g1)
 have HA1 : Hid (Bk w1 (w.heap.size+1) [.string a1,.string a2,.string a3]):=Lib.hid (Bk.below bkk g1)
 have HB1 : Hid (Bk w1 (w.heap.size+1+1) [.string b1,.string b2,.string b3]):=Lib.hid (Bk.below bkk g1)
 have HR1 : Hid (Bk w1 (w.heap.size+1+1+1) [.string ⟨#[]⟩,.string ⟨#[]⟩,.string ⟨#[]⟩]):=Lib.hid (Bk.below bkk g1)
 have B1:=bn (w:=w) bel g1
 clear g1
 obtain ⟨x1,x2,x3, -⟩:=HA1.out.c3
 obtain ⟨y1,y2,y3, -⟩:=HB1.out.c3
 go_wp2_with fail
 refine (K1.out _ _ (hB.below bel) rfl).mono ?_
 rintro e w2 ⟨rfl,g2⟩
 have HP2 : Hid (Bk w2 (w.heap.size) [.string p1,.string p2,.string p3,.string p4]):=Lib.hid ((HP1.out.alloc _).below g2)
 have HA2 : Hid (Bk w2 (w.heap.size+1) [.string a1,.string a2,.string a3]):=Lib.hid ((HA1.out.alloc _).below g2)
 have HB2 : Hid (Bk w2 (w.heap.size+1+1) [.string b1,.string b2,.string b3]):=Lib.hid ((HB1.out.alloc _).below g2)
 have HR2 : Hid (Bk w2 (w.heap.size+1+1+1) [.string ⟨#[]⟩,.string ⟨#[]⟩,.string ⟨#[]⟩]):=Lib.hid ((HR1.out.alloc _).below g2)
 have B2:=bn (w:=w) bel g2
 clear g2
 clear x1 x2 x3 y1 y2 y3 HP1 HA1 HB1 HR1
 obtain ⟨z1,z2,z3,z4, -⟩:=HP2.out.c4
 obtain ⟨x1,x2,x3, -⟩:=HA2.out.c3
 obtain ⟨y1,y2,y3, -⟩:=HB2.out.c3
 go_wp2_with fail
 go_region_held3 (fun w'=>w'.cell? ⟨w.heap.size,0,none⟩=some (.string p1)∧w'.cell? ⟨w.heap.size,1,none⟩=some (.string p2)∧w'.cell? ⟨w.heap.size,2,none⟩=some (.string p3)∧w'.cell? ⟨w.heap.size,3,none⟩=some (.string p4)∧w'.cell? ⟨w.heap.size+1,0,none⟩=some (.string a1)∧w'.cell? ⟨w.heap.size+1,1,none⟩=some (.string a2)∧w'.cell? ⟨w.heap.size+1,2,none⟩=some (.string a3)∧w'.cell? ⟨w.heap.size+1+1,0,none⟩=some (.string b1)∧w'.cell? ⟨w.heap.size+1+1,1,none⟩=some (.string b2)∧w'.cell? ⟨w.heap.size+1+1,2,none⟩=some (.string b3)∧Below w2.heap.size w2 w')
  ((refine (fun hb=>⟨bc hb z1,bc hb z2,bc hb z3,bc hb z4,bc hb x1,bc hb x2,bc hb x3,bc hb y1,bc hb y2,bc hb y3,hb⟩) ?_; go_split_ands; repeat (first | with_reducible assumption | (with_reducible exact bd (br _)) | (with_reducible exact br _) | (with_reducible refine bn ?_ g) | (with_reducible refine ba ?_) | (with_reducible refine bd ?_) | (refine bs ?_ ?_; rotate_left; ((try simp)<;>omega)))))
  (first | (have X1x:=X1; go_at_call 65; refine (K3.out _ (hB.below (bn B2 (by go_split_ands; assumption)))).mono ?_; rintro e wx2 ⟨rfl,g⟩; have X2 : Below w2.heap.size w2 wx2:=bn (by go_split_ands; assumption) g) | (go_at_call 65; refine (K2.out _ (hB.below (bn B2 (by go_split_ands; assumption)))).mono ?_; rintro e wx1 ⟨rfl,g⟩; have X1 : Below w2.heap.size w2 wx1:=bn (by go_split_ands; assumption) g))
 have B3:=bn B2 X2
 have HP3:=Lib.hid (HP2.out.below X2)
 have HA3:=Lib.hid (HA2.out.below X2)
 have HB3:=Lib.hid (HB2.out.below X2)
 have HR3:=Lib.hid (HR2.out.below X2)
 clear z1 z2 z3 z4 x1 x2 x3 y1 y2 y3 HP2 HA2 HB2 HR2
 go_wp2_with fail
 refine (K4.out _ (hB.below bel)).mono ?_
 rintro e w4 ⟨rfl,g4⟩
 have HA4:=Lib.hid (HA3.out.below g4)
 have HB4:=Lib.hid (HB3.out.below g4)
 have HR4:=Lib.hid (HR3.out.below g4)
 have B4:=bn (w:=w) bel g4
 clear g4
 go_wp2_with fail
 refine (K5.out _ (hB.below bel)).mono ?_
 rintro e w5 ⟨rfl,g5⟩
 have HA5:=Lib.hid (HA4.out.below g5)
 have HB5:=Lib.hid (HB4.out.below g5)
 have HR5:=Lib.hid (HR4.out.below g5)
 have B5:=bn (w:=w) bel g5
 clear g5
 clear HP3 HA3 HB3 HR3 HA4 HB4 HR4
 have hnq : (decide (0<sx) == decide (0<sy))=false:=by rw [beq_eq_false_iff_ne]; exact hne
 clear hne
 obtain ⟨x1,x2,x3, -⟩:=HA5.out.c3
 obtain ⟨y1,y2,y3, -⟩:=HB5.out.c3
 have q:=HR5.out.drew
 have hq:=q.lt
 clear HA5 HB5 HR5
 go_wp2_with fail
 go_region_held3 (fun w'=>w'.cell? ⟨w.heap.size+1,0,none⟩=some (.string a1)∧w'.cell? ⟨w.heap.size+1,1,none⟩=some (.string a2)∧w'.cell? ⟨w.heap.size+1,2,none⟩=some (.string a3)∧w'.cell? ⟨w.heap.size+1+1,0,none⟩=some (.string b1)∧w'.cell? ⟨w.heap.size+1+1,1,none⟩=some (.string b2)∧w'.cell? ⟨w.heap.size+1+1,2,none⟩=some (.string b3)∧Below (w.heap.size+1+1+1) w5 w')
  ((refine (fun (hb : Below (w.heap.size+1+1+1) w5 _)=>⟨cbel hb (by omega) x1,cbel hb (by omega) x2,cbel hb (by omega) x3,cbel hb (by omega) y1,cbel hb (by omega) y2,cbel hb (by omega) y3,hb⟩) ?_; go_split_ands; repeat (first | with_reducible assumption | exact (Below.refl _ _).drew | (refine Below.trans ?_ (g.mono (by omega))) | (refine Below.setCell ?_ (by simp) _) | (refine Below.drew ?_))))
  (first | (go_at_call_of 117 (Value.agg #[.string b1,.string b2,.string b3]); refine (K6.out _ (hB.below (B5.trans (Below.mono (B:=w.heap.size+1+1+1) (by go_split_ands; assumption) (by omega))))).mono ?_; rintro e wx ⟨rfl,g⟩; have q:=Bk.below q g; obtain ⟨o0,o1,o2,f0,f1,f2⟩:=q.c3; have hq:=q.lt) | (go_at_call 76; refine (K7.out _ (hB.below (B5.trans (Below.mono (B:=w.heap.size+1+1+1) (by go_split_ands; assumption) (by omega))))).mono ?_; rintro e wx ⟨rfl,g⟩; have q:=Bk.below q g; obtain ⟨o0,o1,o2,f0,f1,f2⟩:=q.c3; have hq:=q.lt) | (go_at_call 193; refine (K8.out _ (hB.below (B5.trans (Below.mono (B:=w.heap.size+1+1+1) (by go_split_ands; assumption) (by omega))))).mono ?_; rintro e wx ⟨rfl,g⟩; have q:=Bk.below q g; obtain ⟨o0,o1,o2,f0,f1,f2⟩:=q.c3; have hq:=q.lt) | (go_at_call 74; refine (K9.out _ (hB.below (B5.trans (Below.mono (B:=w.heap.size+1+1+1) (by go_split_ands; assumption) (by omega))))).mono ?_; rintro e wx ⟨rfl,g⟩; have q:=Bk.below q g; obtain ⟨o0,o1,o2,f0,f1,f2⟩:=q.c3; have hq:=q.lt) | (go_at_call_of 117 (Value.agg #[.string a1,.string a2,.string a3]); refine (K10.out _ (hB.below (B5.trans (Below.mono (B:=w.heap.size+1+1+1) (by go_split_ands; assumption) (by omega))))).mono ?_; rintro e wx ⟨rfl,g⟩; have q:=Bk.below q g; obtain ⟨o0,o1,o2,f0,f1,f2⟩:=q.c3; have hq:=q.lt))
 go_split_ands
 have B9 : Below w.heap.size w _:=B5.trans (Below.mono (B:=w.heap.size+1+1+1) (by assumption) (by omega))
 go_wp2
 refine bodyPost_ret (v:=.tuple #[.agg #[.string r1,.string r2,.string r3],.int .i64 0]) (by simp [results,Tryz.results164,go_sem, *]) rfl ⟨(by first | rfl | rw [hI]),bel⟩
theorem rsg_up {x : Rat} : decide (0<rsg x)=decide (0<x):=by
 unfold rsg rcmp
 by_cases h1 : x<0
 ·rw [if_pos h1,decide_eq_false (by omega),decide_eq_false (by grind)]
 ·by_cases h2 : x=0
  ·rw [if_neg h1,if_pos h2,h2]; rfl
  ·rw [if_neg h1,if_neg h2,decide_eq_true (by omega),decide_eq_true (by grind)]
theorem vCrossing_walk (p : Pl) (a b : V3) (h0 : p.n≠V3.zero) (hu : upP p a≠upP p b) (hp : p.le 100000) (ha : a.le 100000) (hb : b.le 100000) (w : World) (hB : Bw w) :
  Calls Tryz.prog 164 #[PV p,VV a,VV b] w fun e w'=>e=.returned (.tuple #[VV (crossV p a b),.int .i64 0])∧Below w.heap.size w w':=by
 have hha:=rz_height hp ha (n:=800000) (by omega)
 have hhb:=rz_height hp hb (n:=800000) (by omega)
 have hd : rz (p.height a - p.height b)≤1600001:=rz_sub_le hha hhb (by omega)
 have hne : p.height a - p.height b≠0:=fun h=>hu (by
  unfold upP
  rw [show p.height a=p.height b by grind])
 have hq : rz (p.height a / (p.height a - p.height b))≤2400001:=by have:=rz_div (p.height a) (p.height a - p.height b); omega
 have hs : (b.sub a).le 200001:=V3.le_sub hb ha (by omega)
 have hm : ((b.sub a).smul (p.height a / (p.height a - p.height b))).le 2600002:=V3.le_smul hs hq (by omega)
 have k0:=fun w hB=>vplane_walk p ⟨hp.1.mono (by omega),by have:=hp.2; omega⟩ w hB
 rw [plc_ne h0] at k0
 have k1 : ∀ W q,Bw W→q=W.heap.size→Calls Tryz.prog 71 #[.slice (some ⟨q,0,none⟩) 2 2] (W.alloc (.cells #[.string (rtx a.x),.string (rtx a.y),.string (rtx a.z),.string (rtx b.x),.string (rtx b.y),.string (rtx b.z)] 26)) fun e w'=>e=.returned (.int .i64 0)∧Below (W.alloc (.cells #[.string (rtx a.x),.string (rtx a.y),.string (rtx a.z),.string (rtx b.x),.string (rtx b.y),.string (rtx b.z)] 26)).heap.size (W.alloc (.cells #[.string (rtx a.x),.string (rtx a.y),.string (rtx a.z),.string (rtx b.x),.string (rtx b.y),.string (rtx b.z)] 26)) w':=by
  intro W q hW hp2
  have hc0 : chk [txv a,txv b]=0:=chk_yes (by simp [isVec_txv])
  rw [← hc0]
  refine vcheck_walk _ [txv a,txv b] _ (hW.below (ba (br W))) (vs_lit W _ _ 2 q rfl rfl (by simp) hp2) (fun s hs=>?_)
  simp at hs
  rcases hs with rfl | rfl
  ·have:=txv_le ha; exact ⟨by have:=this.1; omega,by have:=this.2.1; omega,by have:=this.2.2; omega⟩
  ·have:=txv_le hb; exact ⟨by have:=this.1; omega,by have:=this.2.1; omega,by have:=this.2.2; omega⟩
 exact vcrossing_at _ _ _ _ _ _ _ _ _ _ _ _ _ _ _ _ _ _ _ _ _ _ _ _ _ (by rw [rsg_up,rsg_up]; exact hu) w hB k0 k1
  (fun w hB=>vheight_walk p a ⟨hp.1.mono (by omega),by have:=hp.2; omega⟩ (ha.mono (by omega)) w hB) (fun w hB=>vheight_walk p b ⟨hp.1.mono (by omega),by have:=hp.2; omega⟩ (hb.mono (by omega)) w hB)
  (fun w hB=>vsign_walk _ (by omega) w hB) (fun w hB=>vsign_walk _ (by omega) w hB)
  (fun w hB=>vzip_sub b a (hb.mono (by omega)) (ha.mono (by omega)) w hB) (fun w hB=>vsub_walk _ _ (by omega) (by omega) w hB) (fun w hB=>vdiv_walk _ _ hne (by omega) (by omega) w hB)
  (fun w hB=>vscale_walk _ _ (hs.mono (by omega)) (by omega) w hB) (fun w hB=>vzip_add a _ (ha.mono (by omega)) (hm.mono (by omega)) w hB)
set_option maxHeartbeats 1000000 in
theorem ccrossing_walk (p : Pl) (a b : V3) (h0 : p.n≠V3.zero) (hu : upP p a≠upP p b) (hp : p.le 100000) (ha : a.le 100000) (hb : b.le 100000) (w : World) (hB : Bw w) :
  Calls Tryz.prog 132 #[PV p,VV a,VV b] w fun e w'=>e=.returned (VV (crossV p a b))∧Below w.heap.size w w':=by
 have H:=Lib.hid (fun w hB=>vCrossing_walk p a b h0 hu hp ha hb w hB)
 rw [PV_eq,VV_eq a,VV_eq b,VV_eq (crossV p a b)] at *
 clear hu h0 hp ha hb
 generalize crossV p a b=r at *
 generalize rtx p.n.x=p1 at *
 generalize rtx p.n.y=p2 at *
 generalize rtx p.n.z=p3 at *
 generalize rtx p.c=p4 at *
 generalize rtx a.x=a1 at *
 generalize rtx a.y=a2 at *
 generalize rtx a.z=a3 at *
 generalize rtx b.x=b1 at *
 generalize rtx b.y=b2 at *
 generalize rtx b.z=b3 at *
 generalize rtx r.x=r1 at *
 generalize rtx r.y=r2 at *
 generalize rtx r.z=r3 at *
 go_enter Tryz.func132,Tryz.ntmps132
 go_wp2_with fail
 refine (H.out _ (hB.below bel)).mono ?_
 rintro e w1 ⟨rfl,g1⟩
 have q : Bk w1 (w.heap.size+1+1+1) [.string ⟨#[]⟩,.string ⟨#[]⟩,.string ⟨#[]⟩]:=Bk.below bkk g1
 have B1:=bn (w:=w) bel g1
 clear g1
 obtain ⟨o0,o1,o2,f0,f1,f2⟩:=q.c3
 have hq:=q.lt
 go_wp2
 refine bodyPost_ret (v:=.agg #[.string r1,.string r2,.string r3]) (by simp [results,Tryz.results132,go_sem, *]) rfl ⟨(by first | rfl | rw [hI]),bel⟩
set_option maxRecDepth 100000 in
set_option maxHeartbeats 4000000 in
theorem cturned_0 (x0 x1 x2 x3 x4 x5 x6 x7 x8 : ByteArray) (w : World) :
  Calls Tryz.prog 131 #[.agg #[.string x0,.string x1,.string x2,.string x3,.string x4,.string x5,.string x6,.string x7,.string x8],.int .i64 0] w fun e w'=>e=.returned (.agg #[.string x0,.string x1,.string x2,.string x3,.string x4,.string x5,.string x6,.string x7,.string x8])∧Below w.heap.size w w':=by
 have t1 : Int.tmod (1 : Int) 3=1:=by decide
 have t2 : Int.tmod (2 : Int) 3=2:=by decide
 have t3 : IntKind.i64.wrap (1 : Int)=1:=by decide
 have t4 : IntKind.i64.wrap (2 : Int)=2:=by decide
 go_enter Tryz.func131,Tryz.ntmps131
 go_wp2_with fail
 have KT : Bk ((w.alloc (.cells #[.string x0,.string x1,.string x2,.string x3,.string x4,.string x5,.string x6,.string x7,.string x8] 36)).alloc (.cells #[.string ⟨#[]⟩,.string ⟨#[]⟩,.string ⟨#[]⟩,.string ⟨#[]⟩,.string ⟨#[]⟩,.string ⟨#[]⟩,.string ⟨#[]⟩,.string ⟨#[]⟩,.string ⟨#[]⟩] 36)) (w.heap.size) [.string x0,.string x1,.string x2,.string x3,.string x4,.string x5,.string x6,.string x7,.string x8]:=bkk
 have KR : Bk ((w.alloc (.cells #[.string x0,.string x1,.string x2,.string x3,.string x4,.string x5,.string x6,.string x7,.string x8] 36)).alloc (.cells #[.string ⟨#[]⟩,.string ⟨#[]⟩,.string ⟨#[]⟩,.string ⟨#[]⟩,.string ⟨#[]⟩,.string ⟨#[]⟩,.string ⟨#[]⟩,.string ⟨#[]⟩,.string ⟨#[]⟩] 36)) (w.heap.size+1) [.string ⟨#[]⟩,.string ⟨#[]⟩,.string ⟨#[]⟩,.string ⟨#[]⟩,.string ⟨#[]⟩,.string ⟨#[]⟩,.string ⟨#[]⟩,.string ⟨#[]⟩,.string ⟨#[]⟩]:=bkk
 have BB : Below w.heap.size w ((w.alloc (.cells #[.string x0,.string x1,.string x2,.string x3,.string x4,.string x5,.string x6,.string x7,.string x8] 36)).alloc (.cells #[.string ⟨#[]⟩,.string ⟨#[]⟩,.string ⟨#[]⟩,.string ⟨#[]⟩,.string ⟨#[]⟩,.string ⟨#[]⟩,.string ⟨#[]⟩,.string ⟨#[]⟩,.string ⟨#[]⟩] 36)):=bel
 generalize (w.alloc (.cells #[.string x0,.string x1,.string x2,.string x3,.string x4,.string x5,.string x6,.string x7,.string x8] 36)).alloc (.cells #[.string ⟨#[]⟩,.string ⟨#[]⟩,.string ⟨#[]⟩,.string ⟨#[]⟩,.string ⟨#[]⟩,.string ⟨#[]⟩,.string ⟨#[]⟩,.string ⟨#[]⟩,.string ⟨#[]⟩] 36)=W at *
 refine wp_region_held_drew (S:=fun w'=>Bk w' w.heap.size [.string x0,.string x1,.string x2,.string x3,.string x4,.string x5,.string x6,.string x7,.string x8]∧Below w.heap.size w w') (by kernel_rfl) ?_ (fun hHeld=>?_)
 ·exact ⟨KT.drew,bd BB⟩
 refine wtk 0 (.int .i64 0) rfl rfl (fun w' hS=>?_) hHeld ?_
 ·go_simp
 try simp only [Act.put,lsx]
 refine wtk 1 (.pointer (some ⟨w.heap.size,0,none⟩)) rfl rfl (fun w' hS=>?_) hHeld ?_
 ·go_simp
 try simp only [Act.put,lsx]
 refine wtk 2 (.agg #[.string x0,.string x1,.string x2]) rfl rfl (fun w' hS=>?_) hHeld ?_
 ·have a9:=hS.1.c9; go_split_ands; go_simp
 try simp only [Act.put,lsx]
 refine wtk 3 (.int .i64 0) rfl rfl (fun w' hS=>?_) hHeld ?_
 ·go_simp
 try simp only [Act.put,lsx]
 refine wtk 4 (.int .i64 1) rfl rfl (fun w' hS=>?_) hHeld ?_
 ·go_simp
 try simp only [Act.put,lsx]
 refine wtk 5 (.int .i64 1) rfl rfl (fun w' hS=>?_) hHeld ?_
 ·go_simp
 try simp only [Act.put,lsx]
 refine wtk 6 (.pointer (some ⟨w.heap.size,3,none⟩)) rfl rfl (fun w' hS=>?_) hHeld ?_
 ·go_simp
 try simp only [Act.put,lsx]
 refine wtk 7 (.agg #[.string x3,.string x4,.string x5]) rfl rfl (fun w' hS=>?_) hHeld ?_
 ·have a9:=hS.1.c9; go_split_ands; go_simp
 try simp only [Act.put,lsx]
 refine wtk 8 (.int .i64 0) rfl rfl (fun w' hS=>?_) hHeld ?_
 ·go_simp
 try simp only [Act.put,lsx]
 refine wtk 9 (.int .i64 2) rfl rfl (fun w' hS=>?_) hHeld ?_
 ·go_simp
 try simp only [Act.put,lsx]
 refine wtk 10 (.int .i64 2) rfl rfl (fun w' hS=>?_) hHeld ?_
 ·go_simp
 try simp only [Act.put,lsx]
 refine wtk 11 (.pointer (some ⟨w.heap.size,6,none⟩)) rfl rfl (fun w' hS=>?_) hHeld ?_
 ·go_simp
 try simp only [Act.put,lsx]
 refine wtk 12 (.agg #[.string x6,.string x7,.string x8]) rfl rfl (fun w' hS=>?_) hHeld ?_
 ·have a9:=hS.1.c9; go_split_ands; go_simp
 try simp only [Act.put,lsx]
 refine wtk 13 (.agg #[.string x0,.string x1,.string x2,.string x3,.string x4,.string x5,.string x6,.string x7,.string x8]) rfl rfl (fun w' hS=>?_) hHeld ?_
 ·go_simp
 try simp only [Act.put,lsx]
 refine wrd 14 rfl (fun K hK=>?_)
 obtain ⟨s0,s1⟩:=hHeld
 refine step_store_row2 (w0:=w) (B:=w.heap.size) (b:=w.heap.size+1) (cs:=[.string x0,.string x1,.string x2,.string x3,.string x4,.string x5,.string x6,.string x7,.string x8]) (by rfl) 36 (.tmp 4) (.tmp 18) (by rfl) (by rfl) (by rfl) KR.drew (by rfl) (by simp) (by rfl) (by kernel_rfl) s1 (by omega) ?_
 intro W4 K4 G4 KP4 FR4 FB4
 refine hK.out _ _ ⟨FB4 _ _ (by omega) s0,G4⟩ (fun hHeld=>?_)
 clear hK K
 try simp only [Act.put,lsx]
 refine wpAnyH_done (by kernel_rfl) ?_ _
 obtain ⟨⟨m0,m1,m2,m3,m4,m5,m6,m7,m8⟩, -⟩:=K4.c9
 go_wp2
 refine bodyPost_ret (v:=.agg #[.string x0,.string x1,.string x2,.string x3,.string x4,.string x5,.string x6,.string x7,.string x8]) (by simp [results,Tryz.results131,go_sem, *]) rfl ?_
 exact ⟨rfl,G4⟩
set_option maxRecDepth 100000 in
set_option maxHeartbeats 4000000 in
theorem cturned_1 (x0 x1 x2 x3 x4 x5 x6 x7 x8 : ByteArray) (w : World) :
  Calls Tryz.prog 131 #[.agg #[.string x0,.string x1,.string x2,.string x3,.string x4,.string x5,.string x6,.string x7,.string x8],.int .i64 1] w fun e w'=>e=.returned (.agg #[.string x3,.string x4,.string x5,.string x6,.string x7,.string x8,.string x0,.string x1,.string x2])∧Below w.heap.size w w':=by
 have t1 : Int.tmod (2 : Int) 3=2:=by decide
 have t2 : Int.tmod (3 : Int) 3=0:=by decide
 have t3 : IntKind.i64.wrap (2 : Int)=2:=by decide
 have t4 : IntKind.i64.wrap (3 : Int)=3:=by decide
 go_enter Tryz.func131,Tryz.ntmps131
 go_wp2_with fail
 have KT : Bk ((w.alloc (.cells #[.string x0,.string x1,.string x2,.string x3,.string x4,.string x5,.string x6,.string x7,.string x8] 36)).alloc (.cells #[.string ⟨#[]⟩,.string ⟨#[]⟩,.string ⟨#[]⟩,.string ⟨#[]⟩,.string ⟨#[]⟩,.string ⟨#[]⟩,.string ⟨#[]⟩,.string ⟨#[]⟩,.string ⟨#[]⟩] 36)) (w.heap.size) [.string x0,.string x1,.string x2,.string x3,.string x4,.string x5,.string x6,.string x7,.string x8]:=bkk
 have KR : Bk ((w.alloc (.cells #[.string x0,.string x1,.string x2,.string x3,.string x4,.string x5,.string x6,.string x7,.string x8] 36)).alloc (.cells #[.string ⟨#[]⟩,.string ⟨#[]⟩,.string ⟨#[]⟩,.string ⟨#[]⟩,.string ⟨#[]⟩,.string ⟨#[]⟩,.string ⟨#[]⟩,.string ⟨#[]⟩,.string ⟨#[]⟩] 36)) (w.heap.size+1) [.string ⟨#[]⟩,.string ⟨#[]⟩,.string ⟨#[]⟩,.string ⟨#[]⟩,.string ⟨#[]⟩,.string ⟨#[]⟩,.string ⟨#[]⟩,.string ⟨#[]⟩,.string ⟨#[]⟩]:=bkk
 have BB : Below w.heap.size w ((w.alloc (.cells #[.string x0,.string x1,.string x2,.string x3,.string x4,.string x5,.string x6,.string x7,.string x8] 36)).alloc (.cells #[.string ⟨#[]⟩,.string ⟨#[]⟩,.string ⟨#[]⟩,.string ⟨#[]⟩,.string ⟨#[]⟩,.string ⟨#[]⟩,.string ⟨#[]⟩,.string ⟨#[]⟩,.string ⟨#[]⟩] 36)):=bel
 generalize (w.alloc (.cells #[.string x0,.string x1,.string x2,.string x3,.string x4,.string x5,.string x6,.string x7,.string x8] 36)).alloc (.cells #[.string ⟨#[]⟩,.string ⟨#[]⟩,.string ⟨#[]⟩,.string ⟨#[]⟩,.string ⟨#[]⟩,.string ⟨#[]⟩,.string ⟨#[]⟩,.string ⟨#[]⟩,.string ⟨#[]⟩] 36)=W at *
 refine wp_region_held_drew (S:=fun w'=>Bk w' w.heap.size [.string x0,.string x1,.string x2,.string x3,.string x4,.string x5,.string x6,.string x7,.string x8]∧Below w.heap.size w w') (by kernel_rfl) ?_ (fun hHeld=>?_)
 ·exact ⟨KT.drew,bd BB⟩
 refine wtk 0 (.int .i64 1) rfl rfl (fun w' hS=>?_) hHeld ?_
 ·go_simp
 try simp only [Act.put,lsx]
 refine wtk 1 (.pointer (some ⟨w.heap.size,3,none⟩)) rfl rfl (fun w' hS=>?_) hHeld ?_
 ·go_simp
 try simp only [Act.put,lsx]
 refine wtk 2 (.agg #[.string x3,.string x4,.string x5]) rfl rfl (fun w' hS=>?_) hHeld ?_
 ·have a9:=hS.1.c9; go_split_ands; go_simp
 try simp only [Act.put,lsx]
 refine wtk 3 (.int .i64 1) rfl rfl (fun w' hS=>?_) hHeld ?_
 ·go_simp
 try simp only [Act.put,lsx]
 refine wtk 4 (.int .i64 2) rfl rfl (fun w' hS=>?_) hHeld ?_
 ·go_simp
 try simp only [Act.put,lsx]
 refine wtk 5 (.int .i64 2) rfl rfl (fun w' hS=>?_) hHeld ?_
 ·go_simp
 try simp only [Act.put,lsx]
 refine wtk 6 (.pointer (some ⟨w.heap.size,6,none⟩)) rfl rfl (fun w' hS=>?_) hHeld ?_
 ·go_simp
 try simp only [Act.put,lsx]
 refine wtk 7 (.agg #[.string x6,.string x7,.string x8]) rfl rfl (fun w' hS=>?_) hHeld ?_
 ·have a9:=hS.1.c9; go_split_ands; go_simp
 try simp only [Act.put,lsx]
 refine wtk 8 (.int .i64 1) rfl rfl (fun w' hS=>?_) hHeld ?_
 ·go_simp
 try simp only [Act.put,lsx]
 refine wtk 9 (.int .i64 3) rfl rfl (fun w' hS=>?_) hHeld ?_
 ·go_simp
 try simp only [Act.put,lsx]
 refine wtk 10 (.int .i64 0) rfl rfl (fun w' hS=>?_) hHeld ?_
 ·go_simp
 try simp only [Act.put,lsx]
 refine wtk 11 (.pointer (some ⟨w.heap.size,0,none⟩)) rfl rfl (fun w' hS=>?_) hHeld ?_
 ·go_simp
 try simp only [Act.put,lsx]
 refine wtk 12 (.agg #[.string x0,.string x1,.string x2]) rfl rfl (fun w' hS=>?_) hHeld ?_
 ·have a9:=hS.1.c9; go_split_ands; go_simp
 try simp only [Act.put,lsx]
 refine wtk 13 (.agg #[.string x3,.string x4,.string x5,.string x6,.string x7,.string x8,.string x0,.string x1,.string x2]) rfl rfl (fun w' hS=>?_) hHeld ?_
 ·go_simp
 try simp only [Act.put,lsx]
 refine wrd 14 rfl (fun K hK=>?_)
 obtain ⟨s0,s1⟩:=hHeld
 refine step_store_row2 (w0:=w) (B:=w.heap.size) (b:=w.heap.size+1) (cs:=[.string x3,.string x4,.string x5,.string x6,.string x7,.string x8,.string x0,.string x1,.string x2]) (by rfl) 36 (.tmp 4) (.tmp 18) (by rfl) (by rfl) (by rfl) KR.drew (by rfl) (by simp) (by rfl) (by kernel_rfl) s1 (by omega) ?_
 intro W4 K4 G4 KP4 FR4 FB4
 refine hK.out _ _ ⟨FB4 _ _ (by omega) s0,G4⟩ (fun hHeld=>?_)
 clear hK K
 try simp only [Act.put,lsx]
 refine wpAnyH_done (by kernel_rfl) ?_ _
 obtain ⟨⟨m0,m1,m2,m3,m4,m5,m6,m7,m8⟩, -⟩:=K4.c9
 go_wp2
 refine bodyPost_ret (v:=.agg #[.string x3,.string x4,.string x5,.string x6,.string x7,.string x8,.string x0,.string x1,.string x2]) (by simp [results,Tryz.results131,go_sem, *]) rfl ?_
 exact ⟨rfl,G4⟩
set_option maxRecDepth 100000 in
set_option maxHeartbeats 4000000 in
theorem cturned_2 (x0 x1 x2 x3 x4 x5 x6 x7 x8 : ByteArray) (w : World) :
  Calls Tryz.prog 131 #[.agg #[.string x0,.string x1,.string x2,.string x3,.string x4,.string x5,.string x6,.string x7,.string x8],.int .i64 2] w fun e w'=>e=.returned (.agg #[.string x6,.string x7,.string x8,.string x0,.string x1,.string x2,.string x3,.string x4,.string x5])∧Below w.heap.size w w':=by
 have t1 : Int.tmod (3 : Int) 3=0:=by decide
 have t2 : Int.tmod (4 : Int) 3=1:=by decide
 have t3 : IntKind.i64.wrap (3 : Int)=3:=by decide
 have t4 : IntKind.i64.wrap (4 : Int)=4:=by decide
 go_enter Tryz.func131,Tryz.ntmps131
 go_wp2_with fail
 have KT : Bk ((w.alloc (.cells #[.string x0,.string x1,.string x2,.string x3,.string x4,.string x5,.string x6,.string x7,.string x8] 36)).alloc (.cells #[.string ⟨#[]⟩,.string ⟨#[]⟩,.string ⟨#[]⟩,.string ⟨#[]⟩,.string ⟨#[]⟩,.string ⟨#[]⟩,.string ⟨#[]⟩,.string ⟨#[]⟩,.string ⟨#[]⟩] 36)) (w.heap.size) [.string x0,.string x1,.string x2,.string x3,.string x4,.string x5,.string x6,.string x7,.string x8]:=bkk
 have KR : Bk ((w.alloc (.cells #[.string x0,.string x1,.string x2,.string x3,.string x4,.string x5,.string x6,.string x7,.string x8] 36)).alloc (.cells #[.string ⟨#[]⟩,.string ⟨#[]⟩,.string ⟨#[]⟩,.string ⟨#[]⟩,.string ⟨#[]⟩,.string ⟨#[]⟩,.string ⟨#[]⟩,.string ⟨#[]⟩,.string ⟨#[]⟩] 36)) (w.heap.size+1) [.string ⟨#[]⟩,.string ⟨#[]⟩,.string ⟨#[]⟩,.string ⟨#[]⟩,.string ⟨#[]⟩,.string ⟨#[]⟩,.string ⟨#[]⟩,.string ⟨#[]⟩,.string ⟨#[]⟩]:=bkk
 have BB : Below w.heap.size w ((w.alloc (.cells #[.string x0,.string x1,.string x2,.string x3,.string x4,.string x5,.string x6,.string x7,.string x8] 36)).alloc (.cells #[.string ⟨#[]⟩,.string ⟨#[]⟩,.string ⟨#[]⟩,.string ⟨#[]⟩,.string ⟨#[]⟩,.string ⟨#[]⟩,.string ⟨#[]⟩,.string ⟨#[]⟩,.string ⟨#[]⟩] 36)):=bel
 generalize (w.alloc (.cells #[.string x0,.string x1,.string x2,.string x3,.string x4,.string x5,.string x6,.string x7,.string x8] 36)).alloc (.cells #[.string ⟨#[]⟩,.string ⟨#[]⟩,.string ⟨#[]⟩,.string ⟨#[]⟩,.string ⟨#[]⟩,.string ⟨#[]⟩,.string ⟨#[]⟩,.string ⟨#[]⟩,.string ⟨#[]⟩] 36)=W at *
 refine wp_region_held_drew (S:=fun w'=>Bk w' w.heap.size [.string x0,.string x1,.string x2,.string x3,.string x4,.string x5,.string x6,.string x7,.string x8]∧Below w.heap.size w w') (by kernel_rfl) ?_ (fun hHeld=>?_)
 ·exact ⟨KT.drew,bd BB⟩
 refine wtk 0 (.int .i64 2) rfl rfl (fun w' hS=>?_) hHeld ?_
 ·go_simp
 try simp only [Act.put,lsx]
 refine wtk 1 (.pointer (some ⟨w.heap.size,6,none⟩)) rfl rfl (fun w' hS=>?_) hHeld ?_
 ·go_simp
 try simp only [Act.put,lsx]
 refine wtk 2 (.agg #[.string x6,.string x7,.string x8]) rfl rfl (fun w' hS=>?_) hHeld ?_
 ·have a9:=hS.1.c9; go_split_ands; go_simp
 try simp only [Act.put,lsx]
 refine wtk 3 (.int .i64 2) rfl rfl (fun w' hS=>?_) hHeld ?_
 ·go_simp
 try simp only [Act.put,lsx]
 refine wtk 4 (.int .i64 3) rfl rfl (fun w' hS=>?_) hHeld ?_
 ·go_simp
 try simp only [Act.put,lsx]
 refine wtk 5 (.int .i64 0) rfl rfl (fun w' hS=>?_) hHeld ?_
 ·go_simp
 try simp only [Act.put,lsx]
 refine wtk 6 (.pointer (some ⟨w.heap.size,0,none⟩)) rfl rfl (fun w' hS=>?_) hHeld ?_
 ·go_simp
 try simp only [Act.put,lsx]
 refine wtk 7 (.agg #[.string x0,.string x1,.string x2]) rfl rfl (fun w' hS=>?_) hHeld ?_
 ·have a9:=hS.1.c9; go_split_ands; go_simp
 try simp only [Act.put,lsx]
 refine wtk 8 (.int .i64 2) rfl rfl (fun w' hS=>?_) hHeld ?_
 ·go_simp
 try simp only [Act.put,lsx]
 refine wtk 9 (.int .i64 4) rfl rfl (fun w' hS=>?_) hHeld ?_
 ·go_simp
 try simp only [Act.put,lsx]
 refine wtk 10 (.int .i64 1) rfl rfl (fun w' hS=>?_) hHeld ?_
 ·go_simp
 try simp only [Act.put,lsx]
 refine wtk 11 (.pointer (some ⟨w.heap.size,3,none⟩)) rfl rfl (fun w' hS=>?_) hHeld ?_
 ·go_simp
 try simp only [Act.put,lsx]
 refine wtk 12 (.agg #[.string x3,.string x4,.string x5]) rfl rfl (fun w' hS=>?_) hHeld ?_
 ·have a9:=hS.1.c9; go_split_ands; go_simp
 try simp only [Act.put,lsx]
 refine wtk 13 (.agg #[.string x6,.string x7,.string x8,.string x0,.string x1,.string x2,.string x3,.string x4,.string x5]) rfl rfl (fun w' hS=>?_) hHeld ?_
 ·go_simp
 try simp only [Act.put,lsx]
 refine wrd 14 rfl (fun K hK=>?_)
 obtain ⟨s0,s1⟩:=hHeld
 refine step_store_row2 (w0:=w) (B:=w.heap.size) (b:=w.heap.size+1) (cs:=[.string x6,.string x7,.string x8,.string x0,.string x1,.string x2,.string x3,.string x4,.string x5]) (by rfl) 36 (.tmp 4) (.tmp 18) (by rfl) (by rfl) (by rfl) KR.drew (by rfl) (by simp) (by rfl) (by kernel_rfl) s1 (by omega) ?_
 intro W4 K4 G4 KP4 FR4 FB4
 refine hK.out _ _ ⟨FB4 _ _ (by omega) s0,G4⟩ (fun hHeld=>?_)
 clear hK K
 try simp only [Act.put,lsx]
 refine wpAnyH_done (by kernel_rfl) ?_ _
 obtain ⟨⟨m0,m1,m2,m3,m4,m5,m6,m7,m8⟩, -⟩:=K4.c9
 go_wp2
 refine bodyPost_ret (v:=.agg #[.string x6,.string x7,.string x8,.string x0,.string x1,.string x2,.string x3,.string x4,.string x5]) (by simp [results,Tryz.results131,go_sem, *]) rfl ?_
 exact ⟨rfl,G4⟩
end Go.Proofs.YtopfedbhkfdjkaaGreatDoor


/- clip: cut (which point of a triangle is alone on its side of a plane); slices.Index of bools. -/
namespace Go.Proofs.YtopfedbhkfdjkaaGreatDoor
open Go Go.RowKit
def ixB (b0 b1 b2 v : Bool) : Int:=if b0=v then 0 else if b1=v then 1 else if b2=v then 2 else -1
set_option maxHeartbeats 2000000 in
theorem idxB_walk (b0 b1 b2 v : Bool) (p : Nat) (w : World) (h : Bk w p [.bool b0,.bool b1,.bool b2]) :
  Calls Tryz.prog 163 #[.slice (some ⟨p,0,none⟩) 3 3,.bool v] w fun e w'=>e=.returned (.int .i64 (ixB b0 b1 b2 v))∧Below w.heap.size w w':=by
 obtain ⟨c0,c1,c2, -⟩:=h.c3
 go_enter Tryz.func163,Tryz.ntmps163
 go_wp2
 refine wp_loop_rounds 4 ?_
 rw [rounds_succ]
 by_cases h0 : b0=v
 ·have E : Hid (ixB b0 b1 b2 v=0):=Lib.hid (by unfold ixB; rw [if_pos h0])
  have q : (v == b0)=true:=by rw [h0]; simp
  go_wp2
  go_ret
  exact ⟨by rw [E.out]; rfl,bel⟩
 ·have q : (v == b0)=false:=by rw [beq_eq_false_iff_ne]; exact fun e=>h0 e.symm
  go_wp2
  rw [rounds_succ]
  by_cases h1 : b1=v
  ·have E : Hid (ixB b0 b1 b2 v=1):=Lib.hid (by unfold ixB; rw [if_neg h0,if_pos h1])
   have q1 : (v == b1)=true:=by rw [h1]; simp
   go_wp2
   go_ret
   exact ⟨by rw [E.out]; rfl,bel⟩
  ·have q1 : (v == b1)=false:=by rw [beq_eq_false_iff_ne]; exact fun e=>h1 e.symm
   go_wp2
   rw [rounds_succ]
   by_cases h2 : b2=v
   ·have E : Hid (ixB b0 b1 b2 v=2):=Lib.hid (by unfold ixB; rw [if_neg h0,if_neg h1,if_pos h2])
    have q2 : (v == b2)=true:=by rw [h2]; simp
    go_wp2
    go_ret
    exact ⟨by rw [E.out]; rfl,bel⟩
   ·have E : Hid (ixB b0 b1 b2 v = -1):=Lib.hid (by unfold ixB; rw [if_neg h0,if_neg h1,if_neg h2])
    have q2 : (v == b2)=false:=by rw [beq_eq_false_iff_ne]; exact fun e=>h2 e.symm
    go_wp2
    rw [rounds_succ]
    go_wp2
    go_ret
    exact ⟨by rw [E.out]; rfl,bel⟩
def cutI : Bool→Bool→Bool→Int
 | false,false,false => -1
 | true,true,true => -1
 | true,false,false=>0
 | false,true,false=>1
 | false,false,true=>2
 | false,true,true=>0
 | true,false,true=>1
 | true,true,false=>2
def cutA : Bool→Bool→Bool→Bool
 | false,false,false=>false
 | true,true,true=>true
 | true,false,false=>true
 | false,true,false=>true
 | false,false,true=>true
 | false,true,true=>false
 | true,false,true=>false
 | true,true,false=>false
set_option maxRecDepth 100000 in
set_option maxHeartbeats 4000000 in
theorem cut_at (x0 x1 x2 x3 x4 x5 x6 x7 x8 p1 p2 p3 p4 : ByteArray) (s0 s1 s2 : Int) (u0 u1 u2 : Bool) (hu0 : decide (0<s0)=u0) (hu1 : decide (0<s1)=u1) (hu2 : decide (0<s2)=u2) (w : World) (hB : Bw w)
  (k0 : ∀ w,Bw w→Calls Tryz.prog 30 #[.agg #[.string p1,.string p2,.string p3,.string p4],.agg #[.string x0,.string x1,.string x2]] w fun e w'=>e=.returned (.tuple #[.int .i64 s0,.int .i64 0])∧Below w.heap.size w w') (k1 : ∀ w,Bw w→Calls Tryz.prog 30 #[.agg #[.string p1,.string p2,.string p3,.string p4],.agg #[.string x3,.string x4,.string x5]] w fun e w'=>e=.returned (.tuple #[.int .i64 s1,.int .i64 0])∧Below w.heap.size w w') (k2 : ∀ w,Bw w→Calls Tryz.prog 30 #[.agg #[.string p1,.string p2,.string p3,.string p4],.agg #[.string x6,.string x7,.string x8]] w fun e w'=>e=.returned (.tuple #[.int .i64 s2,.int .i64 0])∧Below w.heap.size w w') :
  Calls Tryz.prog 130 #[.agg #[.string x0,.string x1,.string x2,.string x3,.string x4,.string x5,.string x6,.string x7,.string x8],.agg #[.string p1,.string p2,.string p3,.string p4]] w fun e w'=>e=.returned (.tuple #[.int .i64 (cutI u0 u1 u2),.bool (cutA u0 u1 u2)])∧Below w.heap.size w w':=by
 have K0:=Lib.hid k0
 have K1:=Lib.hid k1
 have K2:=Lib.hid k2
 have HX:=Lib.hid (fun b0 b1 b2 v p w h=>idxB_walk b0 b1 b2 v p w h)
 clear k0 k1 k2
 have ix0:=ix_tri0
 have ix1:=ix_tri1
 have ix2:=ix_tri2
 go_enter Tryz.func130,Tryz.ntmps130
 go_wp2
 refine wp_loop_rounds 4 ?_
 rw [rounds_succ]
 go_wp2_with fail
 refine (K0.out _ (hB.below bel)).mono ?_
 rintro e w0 ⟨rfl,g⟩
 have KP0 : Bk w0 (w.heap.size+1) [.string p1,.string p2,.string p3,.string p4]:=Bk.below bkk g
 have KU0 : Bk w0 (w.heap.size+1+1) [.bool false,.bool false,.bool false]:=Bk.below bkk g
 have B0:=bn (w:=w) bel g
 obtain ⟨a0,a1,a2,a3, -⟩:=KP0.c4
 obtain ⟨v0,v1,v2,f0,f1,f2⟩:=KU0.c3
 have hl0:=KU0.lt
 clear g
 have hz0 : w.heap.size+1<w0.heap.size:=by omega
 cases u0
 case false =>
  go_wp2
  rw [rounds_succ]
  go_wp2_with fail
  refine (K1.out _ (hB.below (ba (bs (p:=⟨w.heap.size+1+1,0,none⟩) B0 (by show w.heap.size≤w.heap.size+1+1; omega))))).mono ?_
  rintro e w1 ⟨rfl,g⟩
  have KP1 : Bk w1 (w.heap.size+1) [.string p1,.string p2,.string p3,.string p4]:=((KP0.far (by simp) _).alloc _).below g
  have KU1 : Bk w1 (w.heap.size+1+1) [.bool false,.bool false,.bool false]:=((KU0.set 0 (by simp) _).alloc _).below g
  have B1 : Below w.heap.size w w1:=bn (ba (bs (p:=⟨w.heap.size+1+1,0,none⟩) B0 (by show w.heap.size≤w.heap.size+1+1; omega))) g
  clear a0 a1 a2 a3 v0 v1 v2 f0 f1 f2
  obtain ⟨a0,a1,a2,a3, -⟩:=KP1.c4
  obtain ⟨v0,v1,v2,f0,f1,f2⟩:=KU1.c3
  have hl1:=KU1.lt
  clear g KP0 KU0
  have hz1 : w.heap.size+1<w1.heap.size:=by omega
  cases u1
  case false =>
   go_wp2
   rw [rounds_succ]
   go_wp2_with fail
   refine (K2.out _ (hB.below (ba (bs (p:=⟨w.heap.size+1+1,1,none⟩) B1 (by show w.heap.size≤w.heap.size+1+1; omega))))).mono ?_
   rintro e w2 ⟨rfl,g⟩
   have KP2 : Bk w2 (w.heap.size+1) [.string p1,.string p2,.string p3,.string p4]:=((KP1.far (by simp) _).alloc _).below g
   have KU2 : Bk w2 (w.heap.size+1+1) [.bool false,.bool false,.bool false]:=((KU1.set 1 (by simp) _).alloc _).below g
   have B2 : Below w.heap.size w w2:=bn (ba (bs (p:=⟨w.heap.size+1+1,1,none⟩) B1 (by show w.heap.size≤w.heap.size+1+1; omega))) g
   clear a0 a1 a2 a3 v0 v1 v2 f0 f1 f2
   obtain ⟨a0,a1,a2,a3, -⟩:=KP2.c4
   obtain ⟨v0,v1,v2,f0,f1,f2⟩:=KU2.c3
   have hl2:=KU2.lt
   clear g KP1 KU1
   have hz2 : w.heap.size+1<w2.heap.size:=by omega
   cases u2
   case false =>
    go_wp2
    rw [rounds_succ]
    go_wp2
    go_ret2
    exact ⟨rfl,bs (p:=⟨w.heap.size+1+1,2,none⟩) B2 (by show w.heap.size≤w.heap.size+1+1; omega)⟩
   case true =>
    go_wp2
    rw [rounds_succ]
    go_wp2_with fail
    refine (HX.out _ _ _ _ _ _ (KU2.set 2 (by simp) _)).mono ?_
    rintro e w9 ⟨rfl,g9⟩
    have B9 : Below w.heap.size w w9:=bn (bs (p:=⟨w.heap.size+1+1,2,none⟩) B2 (by show w.heap.size≤w.heap.size+1+1; omega)) g9
    go_wp2
    go_ret2
    exact ⟨rfl,B9⟩
  case true =>
   go_wp2
   rw [rounds_succ]
   go_wp2_with fail
   refine (K2.out _ (hB.below (ba (bs (p:=⟨w.heap.size+1+1,1,none⟩) B1 (by show w.heap.size≤w.heap.size+1+1; omega))))).mono ?_
   rintro e w2 ⟨rfl,g⟩
   have KP2 : Bk w2 (w.heap.size+1) [.string p1,.string p2,.string p3,.string p4]:=((KP1.far (by simp) _).alloc _).below g
   have KU2 : Bk w2 (w.heap.size+1+1) [.bool false,.bool true,.bool false]:=((KU1.set 1 (by simp) _).alloc _).below g
   have B2 : Below w.heap.size w w2:=bn (ba (bs (p:=⟨w.heap.size+1+1,1,none⟩) B1 (by show w.heap.size≤w.heap.size+1+1; omega))) g
   clear a0 a1 a2 a3 v0 v1 v2 f0 f1 f2
   obtain ⟨a0,a1,a2,a3, -⟩:=KP2.c4
   obtain ⟨v0,v1,v2,f0,f1,f2⟩:=KU2.c3
   have hl2:=KU2.lt
   clear g KP1 KU1
   have hz2 : w.heap.size+1<w2.heap.size:=by omega
   cases u2
   case false =>
    go_wp2
    rw [rounds_succ]
    go_wp2_with fail
    refine (HX.out _ _ _ _ _ _ (KU2.set 2 (by simp) _)).mono ?_
    rintro e w9 ⟨rfl,g9⟩
    have B9 : Below w.heap.size w w9:=bn (bs (p:=⟨w.heap.size+1+1,2,none⟩) B2 (by show w.heap.size≤w.heap.size+1+1; omega)) g9
    go_wp2
    go_ret2
    exact ⟨rfl,B9⟩
   case true =>
    go_wp2
    rw [rounds_succ]
    go_wp2_with fail
    refine (HX.out _ _ _ _ _ _ (KU2.set 2 (by simp) _)).mono ?_
    rintro e w9 ⟨rfl,g9⟩
    have B9 : Below w.heap.size w w9:=bn (bs (p:=⟨w.heap.size+1+1,2,none⟩) B2 (by show w.heap.size≤w.heap.size+1+1; omega)) g9
    go_wp2
    go_ret2
    exact ⟨rfl,B9⟩
 case true =>
  go_wp2
  rw [rounds_succ]
  go_wp2_with fail
  refine (K1.out _ (hB.below (ba (bs (p:=⟨w.heap.size+1+1,0,none⟩) B0 (by show w.heap.size≤w.heap.size+1+1; omega))))).mono ?_
  rintro e w1 ⟨rfl,g⟩
  have KP1 : Bk w1 (w.heap.size+1) [.string p1,.string p2,.string p3,.string p4]:=((KP0.far (by simp) _).alloc _).below g
  have KU1 : Bk w1 (w.heap.size+1+1) [.bool true,.bool false,.bool false]:=((KU0.set 0 (by simp) _).alloc _).below g
  have B1 : Below w.heap.size w w1:=bn (ba (bs (p:=⟨w.heap.size+1+1,0,none⟩) B0 (by show w.heap.size≤w.heap.size+1+1; omega))) g
  clear a0 a1 a2 a3 v0 v1 v2 f0 f1 f2
  obtain ⟨a0,a1,a2,a3, -⟩:=KP1.c4
  obtain ⟨v0,v1,v2,f0,f1,f2⟩:=KU1.c3
  have hl1:=KU1.lt
  clear g KP0 KU0
  have hz1 : w.heap.size+1<w1.heap.size:=by omega
  cases u1
  case false =>
   go_wp2
   rw [rounds_succ]
   go_wp2_with fail
   refine (K2.out _ (hB.below (ba (bs (p:=⟨w.heap.size+1+1,1,none⟩) B1 (by show w.heap.size≤w.heap.size+1+1; omega))))).mono ?_
   rintro e w2 ⟨rfl,g⟩
   have KP2 : Bk w2 (w.heap.size+1) [.string p1,.string p2,.string p3,.string p4]:=((KP1.far (by simp) _).alloc _).below g
   have KU2 : Bk w2 (w.heap.size+1+1) [.bool true,.bool false,.bool false]:=((KU1.set 1 (by simp) _).alloc _).below g
   have B2 : Below w.heap.size w w2:=bn (ba (bs (p:=⟨w.heap.size+1+1,1,none⟩) B1 (by show w.heap.size≤w.heap.size+1+1; omega))) g
   clear a0 a1 a2 a3 v0 v1 v2 f0 f1 f2
   obtain ⟨a0,a1,a2,a3, -⟩:=KP2.c4
   obtain ⟨v0,v1,v2,f0,f1,f2⟩:=KU2.c3
   have hl2:=KU2.lt
   clear g KP1 KU1
   have hz2 : w.heap.size+1<w2.heap.size:=by omega
   cases u2
   case false =>
    go_wp2
    rw [rounds_succ]
    go_wp2_with fail
    refine (HX.out _ _ _ _ _ _ (KU2.set 2 (by simp) _)).mono ?_
    rintro e w9 ⟨rfl,g9⟩
    have B9 : Below w.heap.size w w9:=bn (bs (p:=⟨w.heap.size+1+1,2,none⟩) B2 (by show w.heap.size≤w.heap.size+1+1; omega)) g9
    go_wp2
    go_ret2
    exact ⟨rfl,B9⟩
   case true =>
    go_wp2
    rw [rounds_succ]
    go_wp2_with fail
    refine (HX.out _ _ _ _ _ _ (KU2.set 2 (by simp) _)).mono ?_
    rintro e w9 ⟨rfl,g9⟩
    have B9 : Below w.heap.size w w9:=bn (bs (p:=⟨w.heap.size+1+1,2,none⟩) B2 (by show w.heap.size≤w.heap.size+1+1; omega)) g9
    go_wp2
    go_ret2
    exact ⟨rfl,B9⟩
  case true =>
   go_wp2
   rw [rounds_succ]
   go_wp2_with fail
   refine (K2.out _ (hB.below (ba (bs (p:=⟨w.heap.size+1+1,1,none⟩) B1 (by show w.heap.size≤w.heap.size+1+1; omega))))).mono ?_
   rintro e w2 ⟨rfl,g⟩
   have KP2 : Bk w2 (w.heap.size+1) [.string p1,.string p2,.string p3,.string p4]:=((KP1.far (by simp) _).alloc _).below g
   have KU2 : Bk w2 (w.heap.size+1+1) [.bool true,.bool true,.bool false]:=((KU1.set 1 (by simp) _).alloc _).below g
   have B2 : Below w.heap.size w w2:=bn (ba (bs (p:=⟨w.heap.size+1+1,1,none⟩) B1 (by show w.heap.size≤w.heap.size+1+1; omega))) g
   clear a0 a1 a2 a3 v0 v1 v2 f0 f1 f2
   obtain ⟨a0,a1,a2,a3, -⟩:=KP2.c4
   obtain ⟨v0,v1,v2,f0,f1,f2⟩:=KU2.c3
   have hl2:=KU2.lt
   clear g KP1 KU1
   have hz2 : w.heap.size+1<w2.heap.size:=by omega
   cases u2
   case false =>
    go_wp2
    rw [rounds_succ]
    go_wp2_with fail
    refine (HX.out _ _ _ _ _ _ (KU2.set 2 (by simp) _)).mono ?_
    rintro e w9 ⟨rfl,g9⟩
    have B9 : Below w.heap.size w w9:=bn (bs (p:=⟨w.heap.size+1+1,2,none⟩) B2 (by show w.heap.size≤w.heap.size+1+1; omega)) g9
    go_wp2
    go_ret2
    exact ⟨rfl,B9⟩
   case true =>
    go_wp2
    rw [rounds_succ]
    go_wp2
    go_ret2
    exact ⟨rfl,bs (p:=⟨w.heap.size+1+1,2,none⟩) B2 (by show w.heap.size≤w.heap.size+1+1; omega)⟩
end Go.Proofs.YtopfedbhkfdjkaaGreatDoor


/- clip: covers; rows of segments. -/
namespace Go.Proofs.YtopfedbhkfdjkaaGreatDoor
open Go Go.RowKit
def sgs (l : List (SV × SV)) : List Value:=l.flatMap fun e=>[.string e.1.x,.string e.1.y,.string e.1.z,.string e.2.x,.string e.2.y,.string e.2.z]
theorem sgs_append (a b : List (SV × SV)) : sgs (a++b)=sgs a++sgs b:=by simp [sgs]
theorem sgs_get : ∀ (l : List (SV × SV)) (j : Nat) (e : SV × SV),l[j]?=some e→(sgs l)[j * 6]?=some (.string e.1.x)∧(sgs l)[j * 6+1]?=some (.string e.1.y)∧(sgs l)[j * 6+2]?=some (.string e.1.z)∧(sgs l)[j * 6+3]?=some (.string e.2.x)∧(sgs l)[j * 6+4]?=some (.string e.2.y)∧(sgs l)[j * 6+5]?=some (.string e.2.z)
 | [],j,e,h=>by simp at h
 | a :: l,0,e,h=>by
  simp at h
  subst h
  exact ⟨rfl,rfl,rfl,rfl,rfl,rfl⟩
 | a :: l,j+1,e,h=>by
  obtain ⟨h0,h1,h2,h3,h4,h5⟩:=sgs_get l j e (by simpa using h)
  have q : ∀ i : Nat,(sgs (a :: l))[(j+1) * 6+i]?=(sgs l)[j * 6+i]?:=fun i=>by
   show ([.string a.1.x,.string a.1.y,.string a.1.z,.string a.2.x,.string a.2.y,.string a.2.z]++sgs l)[(j+1) * 6+i]?=_
   rw [List.getElem?_append_right (by simp; omega)]
   congr 1
   simp
   omega
  have q0:=q 0
  simp only [Nat.add_zero] at q0
  exact ⟨q0.trans h0,(q 1).trans h1,(q 2).trans h2,(q 3).trans h3,(q 4).trans h4,(q 5).trans h5⟩
def Ss (w : World) (v : Value) (l : List (SV × SV)) : Prop:=Rd w 6 v l.length (sgs l)
theorem Ss.below {w w1 : World} {v : Value} {l : List (SV × SV)} (h : Ss w v l) (hb : Below w.heap.size w w1) : Ss w1 v l:=Rd.below h hb
theorem Ss.own {w : World} {base : Nat} {e : TypeId} {v : Value} {l : List (SV × SV)} (h : w.ownsRow base e 6 v l.length (sgs l)) : Ss w v l:=Rd.own h
theorem Ss.open {w : World} {v : Value} {l : List (SV × SV)} (h : Ss w v l) : ∃ A cap,v=.slice A l.length cap∧l.length≤cap∧cap≤9223372036854775807 ∧
  (0<l.length→∃ b off,A=some ⟨b,off,none⟩∧∀ j e,l[j]?=some e→w.cell? ⟨b,off+j * 6,none⟩=some (.string e.1.x)∧w.cell? ⟨b,off+j * 6+1,none⟩=some (.string e.1.y)∧w.cell? ⟨b,off+j * 6+2,none⟩=some (.string e.1.z)∧w.cell? ⟨b,off+j * 6+3,none⟩=some (.string e.2.x)∧w.cell? ⟨b,off+j * 6+4,none⟩=some (.string e.2.y)∧w.cell? ⟨b,off+j * 6+5,none⟩=some (.string e.2.z)):=by
 obtain ⟨_,A,cap,hv,hn,hc,h⟩:=h
 refine ⟨A,cap,hv,hn,by unfold maxLen at hc; exact hc,fun h0=>?_⟩
 obtain ⟨b,off,hA,hcell⟩:=h h0
 refine ⟨b,off,hA,fun j e hj=>?_⟩
 obtain ⟨h0,h1,h2,h3,h4,h5⟩:=sgs_get l j e hj
 exact ⟨hcell _ _ h0,hcell _ _ h1,hcell _ _ h2,hcell _ _ h3,hcell _ _ h4,hcell _ _ h5⟩
def capO (o : SV) (e : SV × SV) : List TV:=if e.1=o then [] else if e.2=o then [] else [⟨o,e.1,e.2⟩]
def capS : List (SV × SV)→List TV
 | []=>[]
 | x :: s=>(x :: s).flatMap (capO x.1)
theorem take_cap {l : List (SV × SV)} {k : Nat} {e : SV × SV} (h : l[k]?=some e) (o : SV) : (l.take (k+1)).flatMap (capO o)=(l.take k).flatMap (capO o)++capO o e:=by
 rw [List.take_add_one,h,List.flatMap_append]
 simp
theorem cap_len (o : SV) (l : List (SV × SV)) : (l.flatMap (capO o)).length≤l.length:=by
 induction l with
 | nil=>simp
 | cons e l ih =>
  rw [List.flatMap_cons,List.length_append,List.length_cons]
  have : (capO o e).length≤1:=by unfold capO; split<;>(try split)<;>simp
  omega
set_option maxHeartbeats 4000000 in
set_option maxRecDepth 100000 in
theorem covers_own (v : Value) (l : List (SV × SV)) (w : World) (hv : Ss w v l) (hm : l.length≤1000000) :
  Calls Tryz.prog 49 #[v] w (Ret fun u w'=>w'.ownsRow w.heap.size 36 9 u (capS l).length (tcs (capS l))∧Below w.heap.size w w'):=by
 obtain ⟨A,cap,rfl,hn,hc,hcell⟩:=hv.open
 clear hv
 by_cases h0 : l.length=0
 ·have e0 : l=[]:=List.length_eq_zero_iff.1 h0
  subst e0
  go_enter Tryz.func49,Tryz.ntmps49
  go_wp2
  refine wp_loop_rounds 1 ?_
  rw [rounds_succ]
  go_wp2
  go_ret
  exact ⟨_,rfl,World.ownsRow_nil _ _ _ _,bel⟩
 obtain ⟨b,off,rfl,hcl⟩:=hcell (by omega)
 obtain ⟨x0,hx0⟩ : ∃ x,l[0]?=some x:=⟨_,List.getElem?_eq_getElem (by omega)⟩
 have hcap : Hid (capS l=l.flatMap (capO x0.1)):=Lib.hid (by
  cases l with
  | nil=>simp at hx0
  | cons y l=>simp at hx0; subst hx0; rfl)
 obtain ⟨a0,a1,a2, -⟩:=hcl 0 _ hx0
 rw [Nat.zero_mul,Nat.add_zero] at a0 a1 a2
 have HA0:=Lib.hid a0
 have HA1:=Lib.hid a1
 have HA2:=Lib.hid a2
 have HCL:=Lib.hid hcl
 have HTE:=Lib.hid (show l.take l.length=l from List.take_length)
 have HST:=Lib.hid (fun (k : Nat) (e : SV × SV) (h : l[k]?=some e)=>take_cap h x0.1)
 have HLE:=Lib.hid (fun k=>cap_len x0.1 (l.take k))
 obtain ⟨n,hn0⟩ : ∃ n,n=l.length:=⟨_,rfl⟩
 have HG:=Lib.hid (fun k (hk : k<n)=>(show ∃ s,l[k]?=some s from ⟨_,List.getElem?_eq_getElem (by rw [← hn0]; exact hk)⟩))
 have HLE2 : Hid (∀ k,((l.take k).flatMap (capO x0.1)).length≤1000000):=Lib.hid (fun k=>Nat.le_trans (HLE.out k) (by rw [List.length_take]; omega))
 rw [← hn0] at hn HTE hm h0 ⊢
 clear hn0 hcell hcl hx0 a0 a1 a2 HLE
 obtain ⟨X,hX⟩ : ∃ X : Nat→List TV,X=fun k=>(l.take k).flatMap (capO x0.1):=⟨_,rfl⟩
 have HX0 : Hid (X 0=[]):=Lib.hid (by rw [hX]; rfl)
 have HXN : Hid (X n=capS l):=Lib.hid (by rw [hX,hcap.out]; show (l.take n).flatMap _=_; rw [HTE.out])
 have HXS : Hid (∀ k e,l[k]?=some e→X (k+1)=X k++capO x0.1 e):=Lib.hid (by rw [hX]; exact HST.out)
 have HXL : Hid (∀ k,(X k).length≤1000000):=Lib.hid (by rw [hX]; exact HLE2.out)
 clear hX HST HLE2 hcap HTE
 go_enter Tryz.func49,Tryz.ntmps49
 go_wp2
 go_loopw [3,9] (fun ov ii wr=>∃ k : Nat,k≤n∧ii=.int .i64 k∧Hid (wr.ownsRow w.heap.size 36 9 ov (X k).length (tcs (X k)))∧Below w.heap.size w wr) (fun _ ii _=>n - (intOf ii).toNat)
 case atStart=>exact ⟨0,Nat.zero_le _,rfl,Lib.hid (by rw [HX0.out]; exact World.ownsRow_nil _ _ _ _),Below.refl _ _⟩
 case round =>
  obtain ⟨k,hk,rfl,hown,hb⟩:=hrel
  by_cases hlt : k<n
  ·obtain ⟨e,hg⟩:=HG.out k hlt
   obtain ⟨c0,c1,c2,c3,c4,c5⟩:=HCL.out k _ hg
   have c0:=cell_below hb c0
   have c1:=cell_below hb c1
   have c2:=cell_below hb c2
   have c3:=cell_below hb c3
   have c4:=cell_below hb c4
   have c5:=cell_below hb c5
   have a0:=cell_below hb HA0.out
   have a1:=cell_below hb HA1.out
   have a2:=cell_below hb HA2.out
   have HS:=Lib.hid (HXS.out k e hg)
   have HL:=Lib.hid (HXL.out k)
   have hk0 : (0 : Int)≤(k : Int):=by omega
   have hkn : (k : Int)<(n : Int):=by omega
   have h0n : (0 : Int)<(n : Int):=by omega
   have hsz:=hb.size
   have hbl:=World.block_lt_of_cell? wr _ c0
   obtain ⟨e1,e2⟩:=e
   obtain ⟨o,oo⟩:=x0
   dsimp only at c0 c1 c2 c3 c4 c5 a0 a1 a2 HS
   clear hg
   obtain ⟨W,hW⟩ : ∃ x,x=X k:=⟨_,rfl⟩
   rw [← hW] at hown HS HL
   clear hW
   have nq1 : ∀ w,(binOp .neq 26 (.agg #[.string e1.x,.string e1.y,.string e1.z]) (.agg #[.string o.x,.string o.y,.string o.z])).run Tryz.prog w=.ok (.bool !(decide (e1=o))) w:=fun w=>by rw [neq_vec,sv_eq]
   have nq2 : ∀ w,(binOp .neq 26 (.agg #[.string e2.x,.string e2.y,.string e2.z]) (.agg #[.string o.x,.string o.y,.string o.z])).run Tryz.prog w=.ok (.bool !(decide (e2=o))) w:=fun w=>by rw [neq_vec,sv_eq]
   have HT : Hid (tcs [⟨o,e1,e2⟩]=[.string o.x,.string o.y,.string o.z,.string e1.x,.string e1.y,.string e1.z,.string e2.x,.string e2.y,.string e2.z]):=Lib.hid rfl
   by_cases h1 : e1=o
   ·have HS2 : Hid (X (k+1)=W):=Lib.hid (by rw [HS.out]; unfold capO; rw [if_pos h1,List.append_nil])
    rw [decide_eq_true h1] at nq1
    clear HS h1 HT
    go_wp2
    go_roundw
    case rel=>exact ⟨k+1,by omega,by go_num,Lib.hid (by rw [HS2.out]; exact own_below hown.out bel),bel⟩
    case measure=>simp [intOf]; omega
   ·rw [decide_eq_false h1] at nq1
    by_cases h2 : e2=o
    ·have HS2 : Hid (X (k+1)=W):=Lib.hid (by rw [HS.out]; unfold capO; rw [if_neg h1,if_pos h2,List.append_nil])
     rw [decide_eq_true h2] at nq2
     clear HS h1 h2 HT
     go_wp2
     go_roundw
     case rel=>exact ⟨k+1,by omega,by go_num,Lib.hid (by rw [HS2.out]; exact own_below hown.out bel),bel⟩
     case measure=>simp [intOf]; omega
    ·have HS2 : Hid (X (k+1)=W++[⟨o,e1,e2⟩]):=Lib.hid (by rw [HS.out]; unfold capO; rw [if_neg h1,if_neg h2])
     rw [decide_eq_false h2] at nq2
     clear HS h1 h2
     go_wp2_with (at_builtin; refine append_at (w0:=w) w.heap.size rfl (.tmp 27) (.tmp 34) 23 36 _ 9 144 rfl Tryz.underlying23 info_tri rfl (by omega) (by omega) _ W.length 1 (tcs W) [.string o.x,.string o.y,.string o.z,.string e1.x,.string e1.y,.string e1.z,.string e2.x,.string e2.y,.string e2.z] rfl (wr.heap.size+1+1) rfl (by omega) rfl (by simp [Value.oneCell']) (((hown.out.alloc _).alloc _).alloc _) (box_at _ _ (by simp)) bel (by (try simp)<;>omega) (by have:=HL.out; omega) ?_; intro v1 w1 hown1 hb1 hg1)
     have HO1 : Hid (w1.ownsRow w.heap.size 36 9 v1 (X (k+1)).length (tcs (X (k+1)))):=Lib.hid (by
      rw [HS2.out,List.length_append,tcs_append,HT.out]
      exact hown1)
     clear hown1 hg1
     go_wp2
     go_roundw
     case rel=>exact ⟨k+1,by omega,by go_num,HO1,hb1⟩
     case measure=>simp [intOf]; omega
  ·obtain rfl : k=n:=by omega
   have HV : Hid (wr.ownsRow w.heap.size 36 9 u3 (capS l).length (tcs (capS l))):=Lib.hid (by rw [← HXN.out]; exact hown.out)
   clear hown
   go_wp2
   go_ret
   exact ⟨_,rfl,HV.out,hb⟩
end Go.Proofs.YtopfedbhkfdjkaaGreatDoor


/- clip: plane, check, limited; vector.plane and vector.Side on planes that are not right. -/
namespace Go.Proofs.YtopfedbhkfdjkaaGreatDoor
open Go Go.RowKit
def plS (n : SV) (c : ByteArray) : Int:=if (isVec n && isRat c)=true then plc (vOf n) else 1
set_option maxHeartbeats 2000000 in
theorem vplane_no (x1 x2 x3 x4 : ByteArray) (b1 b2 : Bool) (hb : (b1 && b2)=false) (w : World) (hB : Bw w)
  (h1 : ∀ w,Bw w→Calls Tryz.prog 32 #[.agg #[.string x1,.string x2,.string x3]] w fun e w'=>e=.returned (.bool b1)∧Below w.heap.size w w')
  (h2 : ∀ w,Bw w→Calls Tryz.prog 67 #[.string x4] w fun e w'=>e=.returned (.bool b2)∧Below w.heap.size w w') :
  Calls Tryz.prog 63 #[.agg #[.string x1,.string x2,.string x3,.string x4]] w fun e w'=>e=.returned (.int .i64 1)∧Below w.heap.size w w':=by
 have H1:=Lib.hid h1
 have H2:=Lib.hid h2
 clear h1 h2
 cases b1
 case true =>
  cases b2
  case true=>simp at hb
  case false =>
   clear hb
   go_enter Tryz.func63,Tryz.ntmps63
   go_wp2_with fail
   refine wp_region_held_drew (S:=fun w'=>Bk w' w.heap.size [.string x1,.string x2,.string x3,.string x4]∧Below w.heap.size w w') (by kernel_rfl) ?_ (fun hHeld=>?_)
   ·exact ⟨(bk_new _ _ _).drew,bd (ba (br w))⟩
   refine wtk 0 (.pointer (some ⟨w.heap.size,0,none⟩)) rfl rfl (fun w' hS=>?_) hHeld ?_
   ·go_simp
   try simp only [Act.put,lsx]
   refine wtk 1 (.agg #[.string x1,.string x2,.string x3]) rfl rfl (fun w' hS=>?_) hHeld ?_
   ·have a4:=hS.1.c4; go_split_ands; go_simp
   try simp only [Act.put,lsx]
   refine wrd 2 rfl (fun K hK=>?_)
   rw [if_pos (by rfl)]
   go_wp2_with fail
   obtain ⟨s0,s1⟩:=hHeld
   refine (H1.out _ (hB.below s1)).mono ?_
   rintro e v_ ⟨rfl,g⟩
   refine hK.out _ _ ⟨s0.below g,bn s1 g⟩ (fun hHeld=>?_)
   clear g s0 s1 hK K
   try simp only [Act.put,lsx]
   refine wtk 3 (.bool false) rfl rfl (fun w' hS=>?_) hHeld ?_
   ·go_simp
   try simp only [Act.put,lsx]
   refine wtk 4 (.bool false) rfl rfl (fun w' hS=>?_) hHeld ?_
   ·go_simp
   try simp only [Act.put,lsx]
   refine wtk 5 (.pointer (some ⟨w.heap.size,3,none⟩)) rfl rfl (fun w' hS=>?_) hHeld ?_
   ·go_simp
   try simp only [Act.put,lsx]
   refine wtk 6 (.string x4) rfl rfl (fun w' hS=>?_) hHeld ?_
   ·have a4:=hS.1.c4; go_split_ands; go_simp
   try simp only [Act.put,lsx]
   refine wrd 7 rfl (fun K hK=>?_)
   rw [if_pos (by rfl)]
   go_wp2_with fail
   obtain ⟨s0,s1⟩:=hHeld
   refine (H2.out _ (hB.below s1)).mono ?_
   rintro e v_ ⟨rfl,g⟩
   refine hK.out _ _ ⟨s0.below g,bn s1 g⟩ (fun hHeld=>?_)
   clear g s0 s1 hK K
   try simp only [Act.put,lsx]
   refine wtk 8 (.bool true) rfl rfl (fun w' hS=>?_) hHeld ?_
   ·go_simp
   try simp only [Act.put,lsx]
   refine wtk 9 (.bool true) rfl rfl (fun w' hS=>?_) hHeld ?_
   ·go_simp
   try simp only [Act.put,lsx]
   refine wtk 10 (.bool true) rfl rfl (fun w' hS=>?_) hHeld ?_
   ·go_simp
   try simp only [Act.put,lsx]
   refine wpAnyH_take (i:=11) (v:=undef) rfl (by kernel_rfl) (by kernel_rfl) (by kernel_rfl) (fun _ _ _ h=>h) (Or.inr ⟨rfl,rfl⟩) hHeld ?_
   try simp only [Act.put,lsx]
   refine wpAnyH_take (i:=12) (v:=undef) rfl (by kernel_rfl) (by kernel_rfl) (by kernel_rfl) (fun _ _ _ h=>h) (Or.inr ⟨rfl,rfl⟩) hHeld ?_
   try simp only [Act.put,lsx]
   refine wpAnyH_take (i:=13) (v:=undef) rfl (by kernel_rfl) (by kernel_rfl) (by kernel_rfl) (fun _ _ _ h=>h) (Or.inr ⟨rfl,rfl⟩) hHeld ?_
   try simp only [Act.put,lsx]
   refine wpAnyH_take (i:=14) (v:=undef) rfl (by kernel_rfl) (by kernel_rfl) (by kernel_rfl) (fun _ _ _ h=>h) (Or.inr ⟨rfl,rfl⟩) hHeld ?_
   try simp only [Act.put,lsx]
   refine wpAnyH_take (i:=15) (v:=undef) rfl (by kernel_rfl) (by kernel_rfl) (by kernel_rfl) (fun _ _ _ h=>h) (Or.inr ⟨rfl,rfl⟩) hHeld ?_
   try simp only [Act.put,lsx]
   refine wtk 16 (.bool true) rfl rfl (fun w' hS=>?_) hHeld ?_
   ·go_simp
   try simp only [Act.put,lsx]
   refine wpAnyH_done (by kernel_rfl) ?_ _
   obtain ⟨-,s1⟩:=hHeld
   go_wp2
   go_ret
   exact ⟨rfl,s1⟩
 case false =>
  clear hb
  go_enter Tryz.func63,Tryz.ntmps63
  go_wp2_with fail
  refine wp_region_held_drew (S:=fun w'=>Bk w' w.heap.size [.string x1,.string x2,.string x3,.string x4]∧Below w.heap.size w w') (by kernel_rfl) ?_ (fun hHeld=>?_)
  ·exact ⟨(bk_new _ _ _).drew,bd (ba (br w))⟩
  refine wtk 0 (.pointer (some ⟨w.heap.size,0,none⟩)) rfl rfl (fun w' hS=>?_) hHeld ?_
  ·go_simp
  try simp only [Act.put,lsx]
  refine wtk 1 (.agg #[.string x1,.string x2,.string x3]) rfl rfl (fun w' hS=>?_) hHeld ?_
  ·have a4:=hS.1.c4; go_split_ands; go_simp
  try simp only [Act.put,lsx]
  refine wrd 2 rfl (fun K hK=>?_)
  rw [if_pos (by rfl)]
  go_wp2_with fail
  obtain ⟨s0,s1⟩:=hHeld
  refine (H1.out _ (hB.below s1)).mono ?_
  rintro e v_ ⟨rfl,g⟩
  refine hK.out _ _ ⟨s0.below g,bn s1 g⟩ (fun hHeld=>?_)
  clear g s0 s1 hK K
  try simp only [Act.put,lsx]
  refine wtk 3 (.bool true) rfl rfl (fun w' hS=>?_) hHeld ?_
  ·go_simp
  try simp only [Act.put,lsx]
  refine wtk 4 (.bool true) rfl rfl (fun w' hS=>?_) hHeld ?_
  ·go_simp
  try simp only [Act.put,lsx]
  refine wpAnyH_take (i:=5) (v:=undef) rfl (by kernel_rfl) (by kernel_rfl) (by kernel_rfl) (fun _ _ _ h=>h) (Or.inr ⟨rfl,rfl⟩) hHeld ?_
  try simp only [Act.put,lsx]
  refine wpAnyH_take (i:=6) (v:=undef) rfl (by kernel_rfl) (by kernel_rfl) (by kernel_rfl) (fun _ _ _ h=>h) (Or.inr ⟨rfl,rfl⟩) hHeld ?_
  try simp only [Act.put,lsx]
  refine wpAnyH_take (i:=7) (v:=undef) rfl (by kernel_rfl) (by kernel_rfl) (by kernel_rfl) (fun _ _ _ h=>h) (Or.inr ⟨rfl,rfl⟩) hHeld ?_
  try simp only [Act.put,lsx]
  refine wpAnyH_take (i:=8) (v:=undef) rfl (by kernel_rfl) (by kernel_rfl) (by kernel_rfl) (fun _ _ _ h=>h) (Or.inr ⟨rfl,rfl⟩) hHeld ?_
  try simp only [Act.put,lsx]
  refine wtk 9 (.bool true) rfl rfl (fun w' hS=>?_) hHeld ?_
  ·go_simp
  try simp only [Act.put,lsx]
  refine wtk 10 (.bool true) rfl rfl (fun w' hS=>?_) hHeld ?_
  ·go_simp
  try simp only [Act.put,lsx]
  refine wpAnyH_take (i:=11) (v:=undef) rfl (by kernel_rfl) (by kernel_rfl) (by kernel_rfl) (fun _ _ _ h=>h) (Or.inr ⟨rfl,rfl⟩) hHeld ?_
  try simp only [Act.put,lsx]
  refine wpAnyH_take (i:=12) (v:=undef) rfl (by kernel_rfl) (by kernel_rfl) (by kernel_rfl) (fun _ _ _ h=>h) (Or.inr ⟨rfl,rfl⟩) hHeld ?_
  try simp only [Act.put,lsx]
  refine wpAnyH_take (i:=13) (v:=undef) rfl (by kernel_rfl) (by kernel_rfl) (by kernel_rfl) (fun _ _ _ h=>h) (Or.inr ⟨rfl,rfl⟩) hHeld ?_
  try simp only [Act.put,lsx]
  refine wpAnyH_take (i:=14) (v:=undef) rfl (by kernel_rfl) (by kernel_rfl) (by kernel_rfl) (fun _ _ _ h=>h) (Or.inr ⟨rfl,rfl⟩) hHeld ?_
  try simp only [Act.put,lsx]
  refine wpAnyH_take (i:=15) (v:=undef) rfl (by kernel_rfl) (by kernel_rfl) (by kernel_rfl) (fun _ _ _ h=>h) (Or.inr ⟨rfl,rfl⟩) hHeld ?_
  try simp only [Act.put,lsx]
  refine wtk 16 (.bool true) rfl rfl (fun w' hS=>?_) hHeld ?_
  ·go_simp
  try simp only [Act.put,lsx]
  refine wpAnyH_done (by kernel_rfl) ?_ _
  obtain ⟨-,s1⟩:=hHeld
  go_wp2
  go_ret
  exact ⟨rfl,s1⟩
theorem vplane_any (n : SV) (c : ByteArray) (hn : n.le 10000000) (hc : c.size≤10000000) (w : World) (hB : Bw w) :
  Calls Tryz.prog 63 #[.agg #[.string n.x,.string n.y,.string n.z,.string c]] w fun e w'=>e=.returned (.int .i64 (plS n c))∧Below w.heap.size w w':=by
 have h1:=fun w hB=>vValid_walk n ⟨by have:=hn.1; omega,by have:=hn.2.1; omega,by have:=hn.2.2; omega⟩ w hB
 have h2:=fun w hB=>rValid_walk c (by omega) w hB
 by_cases hb : (isVec n && isRat c)=true
 ·have hb2:=hb
  rw [Bool.and_eq_true] at hb2
  obtain ⟨a,rfl⟩:=isVec_iff.1 hb2.1
  obtain ⟨q,rfl⟩:=isRat_iff.1 hb2.2
  unfold plS
  rw [if_pos hb,vOf_txv]
  have la : a.le 10000000:=⟨Nat.le_trans (rz_le_size a.x) hn.1,Nat.le_trans (rz_le_size a.y) hn.2.1,Nat.le_trans (rz_le_size a.z) hn.2.2⟩
  exact vplane_walk ⟨a,q⟩ ⟨la,Nat.le_trans (rz_le_size q) hc⟩ w hB
 ·unfold plS
  rw [if_neg hb]
  exact vplane_no _ _ _ _ (isVec n) (isRat c) (by simpa using hb) w hB h1 h2
set_option maxHeartbeats 1000000 in
theorem vSide_bad (n : SV) (c : ByteArray) (a1 a2 a3 : ByteArray) (hn : n.le 10000000) (hc : c.size≤10000000) (h0 : plS n c=1) (w : World) (hB : Bw w) :
  Calls Tryz.prog 30 #[.agg #[.string n.x,.string n.y,.string n.z,.string c],.agg #[.string a1,.string a2,.string a3]] w fun e w'=>e=.returned (.tuple #[.int .i64 0,.int .i64 1])∧Below w.heap.size w w':=by
 have H:=Lib.hid (fun w hB=>vplane_any n c hn hc w hB)
 rw [h0] at H
 clear hn hc h0
 generalize n.x=n1 at *
 generalize n.y=n2 at *
 generalize n.z=n3 at *
 go_enter Tryz.func30,Tryz.ntmps30
 go_wp2_with fail
 refine (H.out _ (hB.below bel)).mono ?_
 rintro e w1 ⟨rfl,g1⟩
 have B1:=bn (w:=w) bel g1
 clear g1
 go_wp2
 go_ret2
 exact ⟨rfl,bel⟩
theorem plS_cases (n : SV) (c : ByteArray) : plS n c=1∨∃ p : Pl,n=txv p.n∧c=rtx p.c∧p.n≠V3.zero∧plS n c=0:=by
 unfold plS
 by_cases hb : (isVec n && isRat c)=true
 ·rw [if_pos hb]
  rw [Bool.and_eq_true] at hb
  obtain ⟨a,rfl⟩:=isVec_iff.1 hb.1
  obtain ⟨q,rfl⟩:=isRat_iff.1 hb.2
  rw [vOf_txv]
  by_cases h : a=V3.zero
  ·exact .inl (plc_zero h)
  ·exact .inr ⟨⟨a,q⟩,rfl,rfl,h,plc_ne h⟩
 ·rw [if_neg hb]; exact .inl rfl
theorem side_zero (n : SV) (c : ByteArray) (hn : n.le 1000000) (hc : c.size≤1000000) : ∃ s : Int,∀ (w : World),Bw w →
  Calls Tryz.prog 30 #[.agg #[.string n.x,.string n.y,.string n.z,.string c],.agg #[.string ⟨#[48]⟩,.string ⟨#[48]⟩,.string ⟨#[48]⟩]] w fun e w'=>e=.returned (.tuple #[.int .i64 s,.int .i64 (plS n c)])∧Below w.heap.size w w':=by
 rcases plS_cases n c with h | ⟨p,rfl,rfl,hz,h⟩
 ·rw [h]
  exact ⟨0,fun w hB=>vSide_bad n c _ _ _ ⟨by have:=hn.1; omega,by have:=hn.2.1; omega,by have:=hn.2.2; omega⟩ (by omega) h w hB⟩
 ·rw [h]
  have lp : p.le 1000000:=⟨⟨Nat.le_trans (rz_le_size p.n.x) hn.1,Nat.le_trans (rz_le_size p.n.y) hn.2.1,Nat.le_trans (rz_le_size p.n.z) hn.2.2⟩,Nat.le_trans (rz_le_size p.c) hc⟩
  refine ⟨rsg (p.height V3.zero),fun w hB=>?_⟩
  have:=vSide_walk p V3.zero hz lp ⟨by show rz 0≤_; rw [rz_zero]; omega,by show rz 0≤_; rw [rz_zero]; omega,by show rz 0≤_; rw [rz_zero]; omega⟩ w hB
  rw [PV_eq,VV_eq] at this
  have e : rtx V3.zero.x=⟨#[48]⟩∧rtx V3.zero.y=⟨#[48]⟩∧rtx V3.zero.z=⟨#[48]⟩:=⟨rtx_zero,rtx_zero,rtx_zero⟩
  rw [e.1,e.2.1,e.2.2] at this
  exact this
set_option maxHeartbeats 1000000 in
theorem cplane_walk (n : SV) (c : ByteArray) (hn : n.le 1000000) (hc : c.size≤1000000) (w : World) (hB : Bw w) :
  Calls Tryz.prog 60 #[.agg #[.string n.x,.string n.y,.string n.z,.string c]] w fun e w'=>e=.returned (.int .i64 (plS n c))∧Below w.heap.size w w':=by
 obtain ⟨s,h⟩:=side_zero n c hn hc
 have H:=Lib.hid h
 clear h hn hc
 generalize plS n c=z at *
 generalize n.x=n1 at *
 generalize n.y=n2 at *
 generalize n.z=n3 at *
 go_enter Tryz.func60,Tryz.ntmps60
 go_wp2_with fail
 refine (H.out _ (hB.below bel)).mono ?_
 rintro e w1 ⟨rfl,g1⟩
 have B1:=bn (w:=w) bel g1
 clear g1
 go_wp2
 go_ret
 exact ⟨rfl,bel⟩
def chkS (l : List TV) (n : SV) (c : ByteArray) : Int:=if chkC l=0 then plS n c else chkC l
set_option maxHeartbeats 1000000 in
theorem ccheck_walk (v : Value) (l : List TV) (n : SV) (c : ByteArray) (w : World) (hB : Bw w) (hv : Ts w v l) (hs : tle l 40000000) (hn : n.le 1000000) (hc : c.size≤1000000) :
  Calls Tryz.prog 46 #[v,.agg #[.string n.x,.string n.y,.string n.z,.string c]] w fun e w'=>e=.returned (.int .i64 (chkS l n c))∧Below w.heap.size w w':=by
 have H1:=Lib.hid (fun w hB hv=>check_walk v l w hB hv hs)
 have H2:=Lib.hid (fun w hB=>cplane_walk n c hn hc w hB)
 have HV:=Lib.hid hv
 unfold chkS
 obtain ⟨A,cap,rfl, -, -, -⟩:=hv.open
 clear hs hn hc hv
 generalize plS n c=z at *
 generalize n.x=n1 at *
 generalize n.y=n2 at *
 generalize n.z=n3 at *
 by_cases h0 : chkC l=0
 ·rw [if_pos h0]
  rw [h0] at H1
  clear h0
  go_enter Tryz.func46,Tryz.ntmps46
  go_wp2_with fail
  refine (H1.out _ (hB.below bel) (HV.out.below bel)).mono ?_
  rintro e w1 ⟨rfl,g1⟩
  have KP : Bk w1 w.heap.size [.string n1,.string n2,.string n3,.string c]:=Bk.below bkk g1
  have B1:=bn (w:=w) bel g1
  clear g1
  obtain ⟨a0,a1,a2,a3, -⟩:=KP.c4
  go_wp2_with fail
  refine (H2.out _ (hB.below bel)).mono ?_
  rintro e w2 ⟨rfl,g2⟩
  have B2:=bn (w:=w) bel g2
  clear g2
  go_wp2
  go_ret
  exact ⟨rfl,bel⟩
 ·rw [if_neg h0]
  generalize chkC l=y at *
  go_enter Tryz.func46,Tryz.ntmps46
  go_wp2_with fail
  refine (H1.out _ (hB.below bel) (HV.out.below bel)).mono ?_
  rintro e w1 ⟨rfl,g1⟩
  have B1:=bn (w:=w) bel g1
  clear g1
  go_wp2
  go_ret
  exact ⟨rfl,bel⟩
theorem climited_ok (A : Option Addr) (n cap : Nat) (h : n≤512) (w : World) :
  Calls Tryz.prog 48 #[.slice A n cap] w fun e w'=>e=.returned (.tuple #[.slice A n cap,.int .i64 0])∧Below w.heap.size w w':=by
 have h1 : ¬ (512 : Int)<(n : Int):=by omega
 go_enter Tryz.func48,Tryz.ntmps48
 go_wp2
 go_ret2
 exact ⟨rfl,bel⟩
end Go.Proofs.YtopfedbhkfdjkaaGreatDoor


/- A range over an iterator that calls a second function between the yields: the statement's law, where the body always goes on. -/
namespace Go.Proofs.YtopfedbhkfdjkaaGreatDoor
open Go Go.RowKit
theorem own_under {β : Type} {B : Nat} {I : β→World→Prop} (h : OwnFrom B I) {s : β} {W W' : World} (hs : I s W) (g : Below W.heap.size W W') : I s W' :=
 h s W W' none hs ⟨g.os,g.tape,g.output,g.size,fun k hk _=>g.block k hk⟩ (fun _ e=>by cases e)
def SeqTwo {α : Type} (F : Fence) (m : Nat) (P : Program) (gf : Nat) (lb : Array Value) (isY : α→Bool) (encs : α→Array Value) (ef : Nat) (ea : α→Array Value) (C : World→Prop) (Kp : World→World→Prop) (S : List α→Prop) (N : Nat) (w : World) : Prop :=
 ∀ (l : Nat) (J : List α→World→Prop) (W : World),Below w.heap.size w W→(∀ s A B,J s A→Below A.heap.size A B→J s B)→(∀ s A,J s A→C A) →
  (∀ pre x W1,isY x=true→J pre W1→pre.length<N→YieldAt F (m - 1) P l (encs x) W1 fun e W'=>e=.returned (.bool true)∧J (pre++[x]) W'∧Kp W1 W') →
  (∀ pre x W1,isY x=false→J pre W1→pre.length<N→CallsIn F (m - 1) P ef (ea x) W1 fun e W'=>(∃ v,e=.returned v)∧J (pre++[x]) W'∧Kp W1 W') →
  J [] W→CallsIn F m P gf (#[.func (.yield l) #[] #[]]++lb) W fun e W'=>(∃ v,e=.returned v)∧∃ xs,S xs∧J xs W'
theorem range_two {α : Type} {F : Fence} {n : Nat} {P : Program} {g : Operand} {ps : Array Tmp} {assign body : Code} {Q : Exit→Act→World→Prop} {a : Act} {w w0 : World}
  (hro : F.round=none) (h1 : 1≤n) {gf : Nat} {lb : Array Value} (hg : a.eval g=.func (.func gf) #[] lb) (hFg : F.fn gf) (eg : ∀ args w,(callFunc gf args).run P w=.ok (.enter gf args) w)
  {isY : α→Bool} {encs : α→Array Value} {ef : Nat} {ea : α→Array Value} {C : World→Prop} {Kp : World→World→Prop} {S : List α→Prop} {N : Nat} (hseq : SeqTwo F (n - 1) P gf lb isY encs ef ea C Kp S N w0)
  (hKt : ∀ {A B C : World},Kp A B→Kp B C→Kp A C) (hKb : ∀ (W : World) (l : Nat) (o o' : Obj),w.heap.size≤l→W.heap[l]?=some o→o.isCells=false→Kp W (W.putObj l o')) (hb0 : Below w0.heap.size w0 w)
  (hps : ∀ x,isY x=true→(encs x).size=ps.size)
  (I : List α→World→Prop) (hI : OwnFrom w.heap.size I) (hIC : ∀ s A,I s A→C A) (h0 : I [] w) (Ax : α→Act→World→Prop) (hAx : ∀ x a',OwnFrom w.heap.size (fun (_ : Unit) W=>Ax x a' W))
  (hassign : ∀ (l : Nat) (pre : List α) (x : α) (W : World) (K : Act→World→Prop),isY x=true→I pre W→(∀ a' W',KeepsFrom w.heap.size W W'→Kp W W'→I pre W'→Ax x a' W'→K a' W') →
   assign.wpIn (F.inRound l) (n - 1 - 1) P (Exit.then K (fun _ _ _=>False)) { tmps:=(ps.zip (encs x)).foldl (fun t (p,v)=>t.setIfInBounds p v) a.tmps,defers:=[] } W)
  (hbody : ∀ (l : Nat) (pre : List α) (x : α) (a' : Act) (W : World),isY x=true→I pre W→Ax x a' W→pre.length<N→body.wpIn (F.inRound l) (n - 1 - 1) P (fun e _ W'=>e=.normal∧KeepsFrom w.heap.size W W'∧Kp W W'∧I (pre++[x]) W') a' W)
  (hedge : ∀ (pre : List α) (x : α) (W : World),isY x=false→I pre W→pre.length<N→CallsIn F (n - 1 - 1) P ef (ea x) W fun e W'=>(∃ v,e=.returned v)∧KeepsFrom w.heap.size W W'∧Kp W W'∧I (pre++[x]) W')
  (hdone : ∀ (D : Nat) (xs : List α) (W : World),w.heap.size≤D→S xs→I xs W→W.heap[D]?=some (.deferred (some []))→Q .normal { a with defers:={ target:=.collected D,args:=#[] } :: a.defers } W) :
  (Code.rangeFunc g ps assign body).wpIn F n P Q a w:=by
 refine wpIn_rangeFunc fun fn hfn=>?_
 rw [hro]
 -- the loop's record,and the world in which it lies
 obtain ⟨rec,hrec⟩ : ∃ rec : LoopState→Option Code→Loop,rec=fun st pe=>{ state:=st,pending:=pe,fn,tmps:=a.tmps,params:=ps,assign,body,defers:=w.heap.size }:=⟨_,rfl⟩
 obtain ⟨W1,hW1⟩ : ∃ W1,W1=(w.alloc (.deferred (some []))).alloc (.loop (rec .ready none)):=⟨_,rfl⟩
 have s1 : W1.heap.size=w.heap.size+1+1:=by rw [hW1]; simp
 have hL : W1.heap[w.heap.size+1]?=some (.loop (rec .ready none)):=by
  rw [hW1]
  have:=World.alloc_heap_new (w.alloc (.deferred (some []))) (.loop (rec .ready none))
  rwa [World.size_alloc] at this
 have hD : W1.heap[w.heap.size]?=some (.deferred (some [])):=by rw [hW1]; exact (Below.heap_alloc _ _ _ (by simp)).trans (World.alloc_heap_new w _)
 have hW : Below w.heap.size w W1:=by rw [hW1]; exact ba (ba (br w))
 have hI1 : I [] W1:=own_under hI h0 hW
 refine ⟨w.heap.size+1,[{ target:=.collected w.heap.size,args:=#[] }],W1,{ target:=.fn (.func gf) lb,args:=#[.func (.yield (w.heap.size+1)) #[] #[]] },W1,gf,#[.func (.yield (w.heap.size+1)) #[] #[]]++lb,W1, ?_, ?_, ?_, ?_,fun _=>h1, ?_⟩
 ·rw [hW1,hrec]; exact run_enterLoop_outer _ _ _ _ _
 ·simp only [resolve,hg]
  simp [go_sem]
 ·intro f' hf'; simp [Target.leads] at hf'; subst hf'; exact hFg
 ·simp [invoke,go_sem,eg]
 -- what holds between the callbacks
 have up : ∀ (s : List α) (A B : World),(I s A∧A.heap[w.heap.size+1]?=some (.loop (rec .ready none))∧A.heap[w.heap.size]?=some (.deferred (some [])))→Below A.heap.size A B →
   (I s B∧B.heap[w.heap.size+1]?=some (.loop (rec .ready none))∧B.heap[w.heap.size]?=some (.deferred (some []))):=fun s A B ⟨h1,h2,h3⟩ g =>
  ⟨own_under hI h1 g,(g.block _ (Array.getElem?_eq_some_iff.1 h2).1).trans h2,(g.block _ (Array.getElem?_eq_some_iff.1 h3).1).trans h3⟩
 refine (hseq (w.heap.size+1) (fun pre W=>I pre W∧W.heap[w.heap.size+1]?=some (.loop (rec .ready none))∧W.heap[w.heap.size]?=some (.deferred (some []))) W1 (hb0.trans (hW.mono hb0.size)) up (fun s A h=>hIC s A h.1) ?_ ?_ ⟨hI1,hL,hD⟩).mono ?_
 ·-- a yield: one round
  rintro pre x W hx ⟨hi,hl,hk⟩ hlen
  have hlt : w.heap.size+1<W.heap.size:=(Array.getElem?_eq_some_iff.1 hl).1
  have hy:=run_yield (P:=P) (args:=encs x) hl (by rw [hrec]; exact hps x hx)
  rw [hrec] at hy
  refine ⟨fn,_,assign,body,hy,roundIn_of_wpIn hfn (hassign _ pre x W _ hx hi (fun a' V hkv hpv hiv hA=>?_))⟩
  have hlv:=hkv.same _ _ (by omega) hl rfl
  have hdv:=hkv.same _ _ (Nat.le_refl _) hk rfl
  have hltv : w.heap.size+1<V.heap.size:=(Array.getElem?_eq_some_iff.1 hlv).1
  refine ⟨_,run_beginRound hlv (by rw [hrec]), ?_⟩
  have l2 : (V.putObj (w.heap.size+1) (.loop { rec .ready none with state:=.busy })).heap[w.heap.size+1]?=some (.loop { rec .ready none with state:=.busy }):=World.putObj_heap_same hltv
  have k2 : (V.putObj (w.heap.size+1) (.loop { rec .ready none with state:=.busy })).heap[w.heap.size]?=some (.deferred (some [])):=(World.putObj_heap_other (by omega)).trans hdv
  have p2 : Kp V (V.putObj (w.heap.size+1) (.loop { rec .ready none with state:=.busy })):=hKb _ _ _ _ (by omega) hlv rfl
  refine wpIn_mono (hbody _ pre x a' _ hx (hI.putObj _ hiv (by omega) hlv rfl) ((hAx x a').putObj (s:=()) _ hA (by omega) hlv rfl) hlen) ?_
  rintro e a3 W3 ⟨rfl,hk3,hp3,hi3⟩
  have l3:=hk3.same _ _ (by omega) l2 rfl
  have k3:=hk3.same _ _ (Nat.le_refl _) k2 rfl
  have hr:=run_endRound (P:=P) none l3
  refine ⟨_,_,hr,rfl,⟨hI.putObj _ hi3 (by omega) l3 rfl, ?_,(World.putObj_heap_other (by omega)).trans k3⟩,hKt hpv (hKt p2 (hKt hp3 (hKb _ _ _ _ (by omega) l3 rfl)))⟩
  rw [World.putObj_heap_same (Array.getElem?_eq_some_iff.1 l3).1,hrec]
  rfl
 ·-- a call of the second function
  rintro pre x W hx ⟨hi,hl,hk⟩ hlen
  refine (hedge pre x W hx hi hlen).mono ?_
  rintro e W3 ⟨hv,hk3,hp3,hi3⟩
  exact ⟨hv,⟨hi3,hk3.same _ _ (by omega) hl rfl,hk3.same _ _ (Nat.le_refl _) hk rfl⟩,hp3⟩
 ·-- behind the iterator
  rintro e W2 ⟨⟨v,rfl⟩,xs,hS,hi,hl,hk⟩
  have e:=run_endLoop (P:=P) hl (by rw [hrec]; simp)
  exact ⟨none,_,by rw [e,hrec],hdone _ xs _ (Nat.le_refl _) hS (hI.putObj _ hi (by omega) hl rfl) ((World.putObj_heap_other (by omega)).trans hk)⟩
end Go.Proofs.YtopfedbhkfdjkaaGreatDoor


/- A row of the call's own is a slice. -/
namespace Go.Proofs.YtopfedbhkfdjkaaGreatDoor
open Go Go.RowKit
theorem own_sl {w : World} {base sz n : Nat} {e : TypeId} {v : Value} {xs : List Value} (h : w.ownsRow base e sz v n xs) : ∃ A cap,v=.slice A n cap:=by
 rcases h.2 with ⟨rfl,rfl⟩ | ⟨g,cap,cur,rfl,_⟩
 ·exact ⟨none,0,rfl⟩
 ·exact ⟨some ⟨g,0,none⟩,cap,rfl⟩
end Go.Proofs.YtopfedbhkfdjkaaGreatDoor


/- clip: the closure that takes an edge of the section; worlds that differ in some blocks alone. -/
namespace Go.Proofs.YtopfedbhkfdjkaaGreatDoor
open Go Go.RowKit
structure But (B : Nat) (x : Nat→Prop) (W W' : World) : Prop where
 os : W'.os=W.os
 tape : W'.tape=W.tape
 output : W'.output=W.output
 size : W.heap.size≤W'.heap.size
 block : ∀ k,k<B→¬ x k→W'.heap[k]?=W.heap[k]?
theorem But.refl (B : Nat) (x : Nat→Prop) (W : World) : But B x W W:=⟨rfl,rfl,rfl,Nat.le_refl _,fun _ _ _=>rfl⟩
theorem But.trans {B : Nat} {x : Nat→Prop} {a b c : World} (h : But B x a b) (k : But B x b c) : But B x a c :=
 ⟨k.os.trans h.os,k.tape.trans h.tape,k.output.trans h.output,Nat.le_trans h.size k.size,fun i hi hx=>(k.block i hi hx).trans (h.block i hi hx)⟩
theorem But.of {B : Nat} {x : Nat→Prop} {a b : World} (h : Below B a b) : But B x a b:=⟨h.os,h.tape,h.output,h.size,fun k hk _=>h.block k hk⟩
theorem But.put {B : Nat} {x : Nat→Prop} {a w : World} (h : But B x a w) {p : Addr} (hp : x p.block∨B≤p.block) (u : Value) : But B x a (w.setCell p u) :=
 h.trans ⟨rfl,rfl,rfl,by simp [World.setCell],fun k hk hx=>Below.heap_setCell _ _ _ _ (fun e=>by
  rcases hp with hp | hp
  ·exact hx (e ▸ hp)
  ·omega)⟩
theorem But.cell {B : Nat} {x : Nat→Prop} {a b : World} (h : But B x a b) {p : Addr} (hp : p.block<B) (hx : ¬ x p.block) : b.cell? p=a.cell? p:=by
 have:=h.block p.block hp hx
 simp [World.cell?,this]
theorem info_seg : (Tryz.prog.info? 54).map (fun i=>(i.zero,i.size,i.bytes))=some (some (.agg #[.string ⟨#[]⟩,.string ⟨#[]⟩,.string ⟨#[]⟩,.string ⟨#[]⟩,.string ⟨#[]⟩,.string ⟨#[]⟩]),6,96):=by kernel_rfl
theorem own_put {W : World} {base sz n : Nat} {e : TypeId} {v : Value} {xs : List Value} (h : W.ownsRow base e sz v n xs) {p : Addr} (hp : p.block<base) (u : Value) : (W.setCell p u).ownsRow base e sz v n xs:=by
 refine ⟨h.1, ?_⟩
 rcases h.2 with h2 | ⟨g,cap,cur,h1,h2,h3,h4⟩
 ·exact .inl h2
 ·exact .inr ⟨g,cap,cur,h1,h2,(Below.heap_setCell _ _ _ _ (by omega)).trans h3,h4⟩
theorem Bk.blw {w w1 : World} {b B : Nat} {vs : List Value} (h : Bk w b vs) (hB : b<B) (g : Below B w w1) : Bk w1 b vs :=
 ⟨Nat.lt_of_lt_of_le h.lt g.size,fun i v hv=>(g.cell hB).trans (h.cell i v hv),fun i=>(g.frozen (p:=⟨b,i,none⟩) hB).trans (h.free i)⟩
end Go.Proofs.YtopfedbhkfdjkaaGreatDoor


/- law of chapter 13: few. -/
namespace Go.Proofs.YtopfedbhkfdjkaaGreatDoor
open Go Go.RowKit
def few13 (l : List TV) (n : SV) (c : ByteArray) : Bool:=fewT l && (isFew n && decide (c.size≤20))
set_option maxHeartbeats 2000000 in
theorem few13_walk (v : Value) (l : List TV) (n : SV) (c : ByteArray) (hc : c.size≤9223372036854775807) (w : World) (hv : Ts w v l) :
  Calls Tryz.prog 11 #[v,.agg #[.string n.x,.string n.y,.string n.z,.string c]] w fun e w'=>e=.returned (.bool (few13 l n c))∧Below w.heap.size w w':=by
 have H1:=Lib.hid (fun w hv=>refFew_walk v l w hv)
 have H2 : Hid (∀ W : World,Calls Tryz.prog 31 #[.slice (some ⟨W.heap.size,0,none⟩) 1 1] (W.alloc (.cells #[.string n.x,.string n.y,.string n.z] 26)) fun e w'=>e=.returned (.bool (isFew n))∧Below (W.alloc (.cells #[.string n.x,.string n.y,.string n.z] 26)).heap.size (W.alloc (.cells #[.string n.x,.string n.y,.string n.z] 26)) w'):=Lib.hid (fun W=>by
  have:=Few_walk (.slice (some ⟨W.heap.size,0,none⟩) 1 1) [n] (W.alloc (.cells #[.string n.x,.string n.y,.string n.z] 26)) (vs_lit W [n] _ 1 W.heap.size rfl rfl (by simp) rfl) (by simp)
  simpa using this)
 have HV:=Lib.hid hv
 unfold few13
 obtain ⟨A,cap,rfl, -, -, -⟩:=hv.open
 clear hv
 generalize fewT l=r1 at *
 generalize isFew n=r2 at *
 generalize n.x=n1 at *
 generalize n.y=n2 at *
 generalize n.z=n3 at *
 go_enter Tryz.func11,Tryz.ntmps11
 go_wp2_with fail
 refine (H1.out _ (HV.out.below bel)).mono ?_
 rintro e w1 ⟨rfl,g1⟩
 have KP : Bk w1 w.heap.size [.string n1,.string n2,.string n3,.string c]:=Bk.below bkk g1
 have B1:=bn (w:=w) bel g1
 clear g1
 obtain ⟨a0,a1,a2,a3, -⟩:=KP.c4
 cases r1
 case false =>
  go_wp2
  go_ret
  exact ⟨rfl,bel⟩
 case true =>
  go_wp2_with fail
  refine (H2.out _).mono ?_
  rintro e w2 ⟨rfl,g2⟩
  have KP2:=(KP.alloc _).below g2
  have B2:=bn (w:=w) bel g2
  clear g2
  clear a0 a1 a2 a3
  obtain ⟨a0,a1,a2,a3, -⟩:=KP2.c4
  cases r2
  case false =>
   go_wp2
   go_ret
   exact ⟨rfl,bel⟩
  case true =>
   have hd : Hid (decide (c.size≤20)=decide ((c.size : Int)≤20)):=Lib.hid (by
    by_cases h : c.size≤20
    ·rw [decide_eq_true h,decide_eq_true (by omega)]
    ·rw [decide_eq_false h,decide_eq_false (by omega)])
   go_wp2
   go_ret
   exact ⟨by rw [hd.out]; rfl,bel⟩
end Go.Proofs.YtopfedbhkfdjkaaGreatDoor
