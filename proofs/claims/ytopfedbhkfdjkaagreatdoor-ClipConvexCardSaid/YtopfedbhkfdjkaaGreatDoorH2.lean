/- lemmas. -/
import Derived.Test.YtopfedbhkfdjkaaGreatDoorEC
import Derived.Test.YtopfedbhkfdjkaaGreatDoorH1
import Derived.Test.YtopfedbhkfdjkaaGreatDoorED
import Derived.Test.YtopfedbhkfdjkaaGreatDoorF3
import Derived.Test.YtopfedbhkfdjkaaGreatDoorE8
import Derived.Test.YtopfedbhkfdjkaaGreatDoorEA
set_option linter.unusedVariables false
set_option linter.unusedSimpArgs false
namespace Go.Proofs.YtopfedbhkfdjkaaGreatDoor
open Go Go.RowKit
open Go.ChangeMaps (setBlock)
theorem fs_heap {W W1 : World} {lb fb mb : Nat} {L : List (SV × SV)} (h : FS W lb fb mb L) (e : W1.heap=W.heap) : FS W1 lb fb mb L:=by
 have hc : ∀ a,W1.cell? a=W.cell? a:=fun a=>World.cell?_of_block (by rw [e])
 exact ⟨(hc _).trans h.map,(hc _).trans h.self,by rw [e]; exact h.here,h.lm,h.fm⟩
set_option maxHeartbeats 4000000 in
set_option maxRecDepth 100000 in
theorem find_next (lb fb mb : Nat) (p q r : SV) (W : World) (L : List (SV × SV)) (P : List (SV × SV)→Prop) (hk : (Instr.lookup 194 (.map (some mb)) (.agg #[.string p.x,.string p.y,.string p.z]) true).run Tryz.prog ((W.alloc (.cells #[.string p.x,.string p.y,.string p.z] 26)).alloc (.cells #[.string ⟨#[]⟩,.string ⟨#[]⟩,.string ⟨#[]⟩] 26))=.ok (.tuple #[.agg #[.string q.x,.string q.y,.string q.z],.bool true]) ((W.alloc (.cells #[.string p.x,.string p.y,.string p.z] 26)).alloc (.cells #[.string ⟨#[]⟩,.string ⟨#[]⟩,.string ⟨#[]⟩] 26)))
  (hq : q≠p) (hF : FS W lb fb mb L)
  (hI : ∀ V,FS V lb fb mb L→Calls Tryz.prog 123 #[.agg #[.string q.x,.string q.y,.string q.z],.pointer (some ⟨lb,0,none⟩),.pointer (some ⟨fb,0,none⟩)] V fun e w'=>e=.returned (.agg #[.string r.x,.string r.y,.string r.z])∧∃ L',P L'∧w'.heap[mb]?=some (Mo SV.val SV.val L')∧GK V mb w') :
  Calls Tryz.prog 123 #[.agg #[.string p.x,.string p.y,.string p.z],.pointer (some ⟨lb,0,none⟩),.pointer (some ⟨fb,0,none⟩)] W fun e w'=>e=.returned (.agg #[.string r.x,.string r.y,.string r.z])∧(∃ L',P L'∧w'.heap[mb]?=some (Mo SV.val SV.val (kset L' p r)))∧GK W mb w':=by
 have c0:=hF.map
 have c1:=hF.self
 have lt0:=World.block_lt_of_cell? W _ c0
 have lt1:=World.block_lt_of_cell? W _ c1
 have ltm:=mp_lt hF.here
 have k2 : ((W.alloc (.cells #[.string p.x,.string p.y,.string p.z] 26)).alloc (.cells #[.string ⟨#[]⟩,.string ⟨#[]⟩,.string ⟨#[]⟩] 26)).cell? ⟨lb,0,none⟩=some (.map (some mb)):=cal (cal c0)
 have nq : ∀ w,(binOp .neq 26 (.agg #[.string q.x,.string q.y,.string q.z]) (.agg #[.string p.x,.string p.y,.string p.z])).run Tryz.prog w=.ok (.bool true) w:=fun w=>by
  have:=neq_vec q.x q.y q.z p.x p.y p.z w
  rw [sv_eq,decide_eq_false hq] at this
  exact this
 have m3 : (((W.alloc (.cells #[.string p.x,.string p.y,.string p.z] 26)).alloc (.cells #[.string ⟨#[]⟩,.string ⟨#[]⟩,.string ⟨#[]⟩] 26)).alloc (.cells #[.string q.x,.string q.y,.string q.z] 26)).heap[mb]?=some (Mo SV.val SV.val L):=mp_alloc (mp_alloc (mp_alloc hF.here))
 have g3 : GK W mb (((W.alloc (.cells #[.string p.x,.string p.y,.string p.z] 26)).alloc (.cells #[.string ⟨#[]⟩,.string ⟨#[]⟩,.string ⟨#[]⟩] 26)).alloc (.cells #[.string q.x,.string q.y,.string q.z] 26)):=gk_alloc (gk_alloc (gk_alloc (gk_refl _ _)))
 have k3 : (((W.alloc (.cells #[.string p.x,.string p.y,.string p.z] 26)).alloc (.cells #[.string ⟨#[]⟩,.string ⟨#[]⟩,.string ⟨#[]⟩] 26)).alloc (.cells #[.string q.x,.string q.y,.string q.z] 26)).cell? ⟨lb,0,none⟩=some (.map (some mb)):=cal (cal (cal c0))
 have kf : (((W.alloc (.cells #[.string p.x,.string p.y,.string p.z] 26)).alloc (.cells #[.string ⟨#[]⟩,.string ⟨#[]⟩,.string ⟨#[]⟩] 26)).alloc (.cells #[.string q.x,.string q.y,.string q.z] 26)).cell? ⟨fb,0,none⟩=some (fv lb fb):=cal (cal (cal c1))
 have x0 : (((W.alloc (.cells #[.string p.x,.string p.y,.string p.z] 26)).alloc (.cells #[.string ⟨#[]⟩,.string ⟨#[]⟩,.string ⟨#[]⟩] 26)).alloc (.cells #[.string q.x,.string q.y,.string q.z] 26)).cell? ⟨W.heap.size,0,none⟩=some (.string p.x):=by go_simp
 have y0 : (((W.alloc (.cells #[.string p.x,.string p.y,.string p.z] 26)).alloc (.cells #[.string ⟨#[]⟩,.string ⟨#[]⟩,.string ⟨#[]⟩] 26)).alloc (.cells #[.string q.x,.string q.y,.string q.z] 26)).cell? ⟨W.heap.size+1+1,0,none⟩=some (.string q.x):=by go_simp
 have o0 : (((W.alloc (.cells #[.string p.x,.string p.y,.string p.z] 26)).alloc (.cells #[.string ⟨#[]⟩,.string ⟨#[]⟩,.string ⟨#[]⟩] 26)).alloc (.cells #[.string q.x,.string q.y,.string q.z] 26)).cell? ⟨W.heap.size+1,0,none⟩=some (.string ⟨#[]⟩):=by go_simp
 have f0 : (((W.alloc (.cells #[.string p.x,.string p.y,.string p.z] 26)).alloc (.cells #[.string ⟨#[]⟩,.string ⟨#[]⟩,.string ⟨#[]⟩] 26)).alloc (.cells #[.string q.x,.string q.y,.string q.z] 26)).frozen? ⟨W.heap.size+1,0,none⟩=false:=by go_simp
 have x1 : (((W.alloc (.cells #[.string p.x,.string p.y,.string p.z] 26)).alloc (.cells #[.string ⟨#[]⟩,.string ⟨#[]⟩,.string ⟨#[]⟩] 26)).alloc (.cells #[.string q.x,.string q.y,.string q.z] 26)).cell? ⟨W.heap.size,1,none⟩=some (.string p.y):=by go_simp
 have y1 : (((W.alloc (.cells #[.string p.x,.string p.y,.string p.z] 26)).alloc (.cells #[.string ⟨#[]⟩,.string ⟨#[]⟩,.string ⟨#[]⟩] 26)).alloc (.cells #[.string q.x,.string q.y,.string q.z] 26)).cell? ⟨W.heap.size+1+1,1,none⟩=some (.string q.y):=by go_simp
 have o1 : (((W.alloc (.cells #[.string p.x,.string p.y,.string p.z] 26)).alloc (.cells #[.string ⟨#[]⟩,.string ⟨#[]⟩,.string ⟨#[]⟩] 26)).alloc (.cells #[.string q.x,.string q.y,.string q.z] 26)).cell? ⟨W.heap.size+1,1,none⟩=some (.string ⟨#[]⟩):=by go_simp
 have f1 : (((W.alloc (.cells #[.string p.x,.string p.y,.string p.z] 26)).alloc (.cells #[.string ⟨#[]⟩,.string ⟨#[]⟩,.string ⟨#[]⟩] 26)).alloc (.cells #[.string q.x,.string q.y,.string q.z] 26)).frozen? ⟨W.heap.size+1,1,none⟩=false:=by go_simp
 have x2 : (((W.alloc (.cells #[.string p.x,.string p.y,.string p.z] 26)).alloc (.cells #[.string ⟨#[]⟩,.string ⟨#[]⟩,.string ⟨#[]⟩] 26)).alloc (.cells #[.string q.x,.string q.y,.string q.z] 26)).cell? ⟨W.heap.size,2,none⟩=some (.string p.z):=by go_simp
 have y2 : (((W.alloc (.cells #[.string p.x,.string p.y,.string p.z] 26)).alloc (.cells #[.string ⟨#[]⟩,.string ⟨#[]⟩,.string ⟨#[]⟩] 26)).alloc (.cells #[.string q.x,.string q.y,.string q.z] 26)).cell? ⟨W.heap.size+1+1,2,none⟩=some (.string q.z):=by go_simp
 have o2 : (((W.alloc (.cells #[.string p.x,.string p.y,.string p.z] 26)).alloc (.cells #[.string ⟨#[]⟩,.string ⟨#[]⟩,.string ⟨#[]⟩] 26)).alloc (.cells #[.string q.x,.string q.y,.string q.z] 26)).cell? ⟨W.heap.size+1,2,none⟩=some (.string ⟨#[]⟩):=by go_simp
 have f2 : (((W.alloc (.cells #[.string p.x,.string p.y,.string p.z] 26)).alloc (.cells #[.string ⟨#[]⟩,.string ⟨#[]⟩,.string ⟨#[]⟩] 26)).alloc (.cells #[.string q.x,.string q.y,.string q.z] 26)).frozen? ⟨W.heap.size+1,2,none⟩=false:=by go_simp
 have HI:=Lib.hid hI
 have F3 : FS (((W.alloc (.cells #[.string p.x,.string p.y,.string p.z] 26)).alloc (.cells #[.string ⟨#[]⟩,.string ⟨#[]⟩,.string ⟨#[]⟩] 26)).alloc (.cells #[.string q.x,.string q.y,.string q.z] 26)) lb fb mb L:=⟨k3,kf,m3,hF.lm,hF.fm⟩
 have NL : lb≠mb:=hF.lm
 have NF : fb≠mb:=hF.fm
 have NP : W.heap.size≠mb:=by omega
 have NQ : W.heap.size+1+1≠mb:=by omega
 have NR : W.heap.size+1≠mb:=by omega
 have nm : mb≠W.heap.size+1:=by omega
 have LU:=Lib.hid (fun (V : World) (L' : List (SV × SV)) (h : V.heap[mb]?=some (Mo SV.val SV.val L'))=>lm_update h p r)
 have LL:=Lib.hid (fun (V : World) (L' : List (SV × SV)) (h : V.heap[mb]?=some (Mo SV.val SV.val (kset L' p r)))=>(by
  have:=lm_look h p false
  rw [kget_kset,if_pos rfl] at this
  exact this : (Instr.lookup 194 (.map (some mb)) (.agg #[.string p.x,.string p.y,.string p.z]) false).run Tryz.prog V=.ok (.agg #[.string r.x,.string r.y,.string r.z]) V))
 clear hF hI hq c1
 unfold fv at kf
 generalize p.x=p1 at *
 generalize p.y=p2 at *
 generalize p.z=p3 at *
 generalize q.x=q1 at *
 generalize q.y=q2 at *
 generalize q.z=q3 at *
 generalize r.x=r1 at *
 generalize r.y=r2 at *
 generalize r.z=r3 at *
 obtain ⟨X,hX⟩ : ∃ X,X=(((W.alloc (.cells #[.string p1,.string p2,.string p3] 26)).alloc (.cells #[.string ⟨#[]⟩,.string ⟨#[]⟩,.string ⟨#[]⟩] 26)).alloc (.cells #[.string q1,.string q2,.string q3] 26)):=⟨_,rfl⟩
 rw [← hX] at k3 kf m3 g3 F3 x0 x1 x2 y0 y1 y2 o0 o1 o2 f0 f1 f2
 have ZR : W.heap.size+1<X.heap.size:=World.block_lt_of_cell? X _ o0
 have HX:=Lib.hid hX
 have G3:=Lib.hid g3
 have HF3:=Lib.hid F3
 have HM3:=Lib.hid m3
 clear hX g3 F3 m3
 go_enter Tryz.func123,Tryz.ntmps123
 go_wp2
 rw [← HX.out]
 clear hk k2 c0
 have hsd : ∀ (W : World) (b : Nat) (o : Obj),(setBlock W.drew b o).heap=(setBlock W b o).heap:=fun _ _ _=>rfl
 have hsd2 : ∀ (W : World),W.drew.heap=W.heap:=fun _=>rfl
 go_region_held3 (fun w'=>w'.cell? ⟨lb,0,none⟩=some (.map (some mb))∧w'.cell? ⟨fb,0,none⟩=some (.func (.func 123) #[] #[.pointer (some ⟨lb,0,none⟩),.pointer (some ⟨fb,0,none⟩)])∧w'.cell? ⟨W.heap.size,0,none⟩=some (.string p1)∧w'.cell? ⟨W.heap.size,1,none⟩=some (.string p2)∧w'.cell? ⟨W.heap.size,2,none⟩=some (.string p3)∧w'.cell? ⟨W.heap.size+1+1,0,none⟩=some (.string q1)∧w'.cell? ⟨W.heap.size+1+1,1,none⟩=some (.string q2)∧w'.cell? ⟨W.heap.size+1+1,2,none⟩=some (.string q3)∧w'.cell? ⟨W.heap.size+1,0,none⟩=some (.string ⟨#[]⟩)∧w'.cell? ⟨W.heap.size+1,1,none⟩=some (.string ⟨#[]⟩)∧w'.cell? ⟨W.heap.size+1,2,none⟩=some (.string ⟨#[]⟩)∧w'.frozen? ⟨W.heap.size+1,0,none⟩=false∧w'.frozen? ⟨W.heap.size+1,1,none⟩=false∧w'.frozen? ⟨W.heap.size+1,2,none⟩=false)
  ((go_split_ands; refine (fun (hT : GK X mb _)=>⟨hT.cell k3 NL,hT.cell kf NF,hT.cell x0 NP,hT.cell x1 NP,hT.cell x2 NP,hT.cell y0 NQ,hT.cell y1 NQ,hT.cell y2 NQ,hT.cell o0 NR,hT.cell o1 NR,hT.cell o2 NR,hT.frozen ZR NR f0,hT.frozen ZR NR f1,hT.frozen ZR NR f2⟩) ?_; repeat (first | with_reducible assumption | with_reducible exact gk_refl _ _ | with_reducible refine gk_drew ?_ | with_reducible refine gk_set ?_)))
  ((go_at_call 123; refine (HI.out _ (by exact fs_heap HF3.out rfl)).mono ?_; rintro e wx1 ⟨rfl,L1,hP,hm1,g1⟩; have GX : GK X mb wx1:=gk_trans (by first | exact gk_refl _ _ | exact gk_drew (gk_refl _ _)) g1; have hup : ∀ V : World,V.heap=wx1.heap→(Instr.mapUpdate 194 (.map (some mb)) (.agg #[.string p1,.string p2,.string p3]) (.agg #[.string r1,.string r2,.string r3])).run Tryz.prog V=.ok () (setBlock V mb (Mo SV.val SV.val (kset L1 p r))):=fun V h=>LU.out V L1 (by rw [h]; exact hm1); have hlk : ∀ V : World,V.heap=(setBlock wx1 mb (Mo SV.val SV.val (kset L1 p r))).heap→(Instr.lookup 194 (.map (some mb)) (.agg #[.string p1,.string p2,.string p3]) false).run Tryz.prog V=.ok (.agg #[.string r1,.string r2,.string r3]) V:=fun V h=>LL.out V L1 (by rw [h]; exact setBlock_heap hm1); have HP:=Lib.hid hP; have HM1:=Lib.hid hm1; clear hP hm1 g1))
 have HE : Hid ((setBlock wx1 mb (Mo SV.val SV.val (kset L1 p r))).heap[mb]?=some (Mo SV.val SV.val (kset L1 p r))):=Lib.hid (setBlock_heap HM1.out)
 have GE : Hid (GK W mb (setBlock wx1 mb (Mo SV.val SV.val (kset L1 p r)))):=Lib.hid (gk_trans G3.out (gk_set GX))
 have zE : W.heap.size+1<(setBlock wx1 mb (Mo SV.val SV.val (kset L1 p r))).heap.size:=by have:=GX.size; rw [setBlock_size]; omega
 go_split_ands
 go_wp2
 refine bodyPost_ret (v:=.agg #[.string r1,.string r2,.string r3]) (by simp [results,Tryz.results123,go_sem, *]) rfl ?_
 exact ⟨rfl,⟨L1,HP.out,mp_set (mp_set (mp_set HE.out nm) nm) nm⟩,gk_below GE.out ((((Below.refl W.heap.size _).setCell (by (try simp)) _).setCell (by (try simp)) _).setCell (by (try simp)) _)⟩
end Go.Proofs.YtopfedbhkfdjkaaGreatDoor

namespace Go.Proofs.YtopfedbhkfdjkaaGreatDoor
open Go Go.RowKit
open Go.ChangeMaps (setBlock)
theorem find_walk (ρ : SV→Nat) (R : List (SV × SV)) (lb fb mb : Nat) : ∀ (n : Nat) (p : SV),ρ p<n→FindOk ρ R lb fb mb p:=by
 intro n
 induction n with
 | zero=>intro p h; exact absurd h (by omega)
 | succ n ih =>
  intro p hp W L hU hF
  have lk:=lm_look (W:=(W.alloc (.cells #[.string p.x,.string p.y,.string p.z] 26)).alloc (.cells #[.string ⟨#[]⟩,.string ⟨#[]⟩,.string ⟨#[]⟩] 26)) (mp_alloc (mp_alloc hF.here)) p true
  cases hk : kget L p with
  | none =>
   rw [hk] at lk
   obtain ⟨h1,h2⟩:=hU.fresh hk
   rw [h2]
   refine (find_end lb fb mb p zsv false W L lk (by simp) hF).mono ?_
   rintro e w' ⟨rfl,hm,hg⟩
   exact ⟨rfl,_,h1,hm,hg⟩
  | some q =>
   rw [hk] at lk
   by_cases hqp : q=p
   ·subst hqp
    obtain ⟨h1,h2,h3⟩:=hU.self hk
    have h4 : rootOf (touch R q) q=q:=by rw [h2]; exact h3
    rw [h4]
    refine (find_end lb fb mb q q true W L lk (fun _=>rfl) hF).mono ?_
    rintro e w' ⟨rfl,hm,hg⟩
    rw [h1] at hm
    exact ⟨rfl,L,by rw [h2]; exact hU,hm,hg⟩
   ·obtain ⟨h1,h2,h3,h4⟩:=hU.next hk hqp
    have hIH:=ih q (by omega)
    have e1 : touch R q=R:=touch_of_mem h1
    have e2 : touch R p=R:=touch_of_mem h2
    refine (find_next lb fb mb p q (rootOf R p) W L (fun L'=>UF ρ L' R) lk hqp hF ?_).mono ?_
    ·intro V hV
     refine (hIH V L hU hV).mono ?_
     rintro e w' ⟨rfl,L',h5,h6,h7⟩
     rw [e1,h3]
     rw [e1] at h5
     exact ⟨rfl,L',h5,h6,h7⟩
    ·rintro e w' ⟨rfl,⟨L',h5,h6⟩,h7⟩
     rw [e2]
     exact ⟨rfl,_,h5.press h2,h6,h7⟩
theorem cs_none : ∀ (l : List (SV × SV)) (n : Nat),cs #[] l n=0
 | [],_=>rfl
 | p :: l,n=>by simp [cs,cs_none l (n+1)]
theorem cs_other (seen : Array Nat) (b : Nat) : ∀ (l : List (SV × SV)) (n : Nat),b<n→cs (seen.push b) l n=cs seen l n
 | [],_,_=>rfl
 | p :: l,n,h=>by
  have e : (n == b)=false:=by simp; omega
  rw [cs,cs,cs_other seen b l (n+1) (by omega),contains_push,e,Bool.or_false]
theorem cs_push (seen : Array Nat) : ∀ (l : List (SV × SV)) (n j : Nat) (p : SV × SV),l[j]?=some p→seen.contains (n+j)=false→cs (seen.push (n+j)) l n=cs seen l n+if p.1=p.2 then 1 else 0
 | [],_,_,_,h,_=>by simp at h
 | q :: l,n,0,p,h,hs=>by
  simp at h
  subst h
  rw [Nat.add_zero] at hs ⊢
  rw [cs,cs,cs_other seen n l (n+1) (by omega),contains_push,hs]
  simp
  omega
 | q :: l,n,j+1,p,h,hs=>by
  have e : (n == n + (j+1))=false:=by simp
  have e2 : n + (j+1)=(n+1)+j:=by omega
  rw [cs,cs,contains_push,e,Bool.or_false]
  rw [e2] at hs ⊢
  rw [cs_push seen l (n+1) j p (by simpa using h) hs]
  omega
theorem cs_full (seen : Array Nat) : ∀ (l : List (SV × SV)) (n : Nat),(∀ j,j<l.length→seen.contains (n+j)=true)→cs seen l n=l.countP fun p=>decide (p.1=p.2)
 | [],_,_=>rfl
 | p :: l,n,h=>by
  have h0:=h 0 (by simp)
  rw [Nat.add_zero] at h0
  rw [cs,h0,cs_full seen l (n+1) (fun j hj=>by rw [show n+1+j=n + (j+1) by omega]; exact h (j+1) (by simpa using hj)),List.countP_cons]
  simp
  omega
theorem cs_le (seen : Array Nat) : ∀ (l : List (SV × SV)) (n : Nat),cs seen l n≤l.length
 | [],_=>Nat.le_refl _
 | p :: l,n=>by
  have:=cs_le seen l (n+1)
  rw [cs,List.length_cons]
  split<;>omega
theorem touch_len (R : List (SV × SV)) (x : SV) : (touch R x).length≤R.length+1:=by
 unfold touch
 split
 ·omega
 ·simp
theorem unite_len (R : List (SV × SV)) (x y : SV) : (unite R x y).length≤R.length+2:=by
 unfold unite graft
 rw [List.length_map]
 have h1:=touch_len (touch R x) y
 have h2:=touch_len R x
 omega
theorem shellR_snoc (l : List TV) (t : TV) : shellR (l++[t])=shellStep (shellR l) t:=by
 unfold shellR
 rw [List.foldl_append]
 rfl
theorem shellR_take {l : List TV} {k : Nat} {t : TV} (hk : l[k]?=some t) : shellR (l.take (k+1))=unite (unite (shellR (l.take k)) t.b t.a) t.c t.a:=by
 have hlt : k<l.length:=(List.getElem?_eq_some_iff.1 hk).1
 have e : l[k]=t:=(List.getElem?_eq_some_iff.1 hk).2
 rw [List.take_succ_eq_append_getElem hlt,e,shellR_snoc]
 rfl
theorem shellR_len (l : List TV) : ∀ k,k≤l.length→(shellR (l.take k)).length≤4 * k:=by
 intro k
 induction k with
 | zero=>intro _; simp [shellR]
 | succ k ih =>
  intro h
  have hg : l[k]?=some l[k]:=List.getElem?_eq_getElem (by omega)
  rw [shellR_take hg]
  have h1:=ih (by omega)
  have h2:=unite_len (shellR (l.take k)) l[k].b l[k].a
  have h3:=unite_len (unite (shellR (l.take k)) l[k].b l[k].a) l[k].c l[k].a
  omega
theorem UF.unite {ρ : SV→Nat} {L R : List (SV × SV)} {x y : SV} (h : UF ρ L (touch (touch R x) y)) : ∃ ρ',UF ρ' (kset L (rootOf (touch R x) x) (rootOf (touch (touch R x) y) y)) (unite R x y):=by
 have hx : x ∈ (touch (touch R x) y).map (·.1):=mem_touch_of (mem_touch R x) y
 have hy : y ∈ (touch (touch R x) y).map (·.1):=mem_touch (touch R x) y
 have e : rootOf (touch R x) x=rootOf (touch (touch R x) y) x:=by rw [rootOf_touch (touch R x) y]
 obtain ⟨h1,h2⟩:=h.root x hx
 obtain ⟨h3,h4⟩:=h.root y hy
 have:=h.join h1 h2 h3 h4
 unfold Go.Proofs.YtopfedbhkfdjkaaGreatDoor.unite
 rw [e]
 exact this
theorem fs_step {W W1 : World} {lb fb mb : Nat} {L L1 : List (SV × SV)} (h : FS W lb fb mb L) (g : GK W mb W1) (h1 : W1.heap[mb]?=some (Mo SV.val SV.val L1)) {V : World} (e : V.heap=W1.heap) : FS V lb fb mb L1:=fs_heap (h.gk g h1) e
set_option maxHeartbeats 8000000 in
set_option maxRecDepth 100000 in
theorem mShells_ok (v : Value) (l : List TV) (w : World) (hB : Bw w) (hv : Ts w v l) (hs : tle l 40000000) (hz : chkC l=0) :
  Calls Tryz.prog 78 #[v] w fun e w'=>e=.returned (.tuple #[.int .i64 (shellsL l : Nat),.int .i64 0])∧Below w.heap.size w w':=by
 have H1:=Lib.hid (fun w hB hv=>check_walk v l w hB hv hs)
 have hp:=chkC_zero hz
 rw [hz] at H1
 have HV:=Lib.hid hv
 obtain ⟨A,cap,rfl,hn,hc,hcell⟩:=hv.open
 have HCL:=Lib.hid hcell
 have hn512 : l.length≤512:=by omega
 have HTE:=Lib.hid (show l.take l.length=l from List.take_length)
 have HLEN:=Lib.hid (fun k hk=>shellR_len l k hk)
 clear hcell hp hz hs hv
 obtain ⟨n,hn0⟩ : ∃ n,n=l.length:=⟨_,rfl⟩
 have HG:=Lib.hid (fun k (hk : k<n)=>(show ∃ t,l[k]?=some t from ⟨_,List.getElem?_eq_getElem (by rw [← hn0]; exact hk)⟩))
 rw [← hn0] at hn H1 HCL HV HTE hn512 HLEN ⊢
 clear hn0
 have hmm:=@run_makeMap Tryz.prog
 go_enter Tryz.func78,Tryz.ntmps78
 go_wp2_with fail
 refine (H1.out _ (hB.below bel) (HV.out.below bel)).mono ?_
 rintro e w1 ⟨rfl,g1⟩
 have B1:=bn (w:=w) bel g1
 clear g1
 have hs1:=B1.size
 obtain ⟨mb,hmb⟩ : ∃ x,x=w1.heap.size:=⟨_,rfl⟩
 obtain ⟨lb,hlb⟩ : ∃ x,x=w1.heap.size+1:=⟨_,rfl⟩
 obtain ⟨fb,hfb⟩ : ∃ x,x=w1.heap.size+1+1:=⟨_,rfl⟩
 have F0 : FS (((w1.alloc (.map #[] 0)).alloc (.cells #[.map (some w1.heap.size)] 194)).alloc (.cells #[.func (.func 123) #[] #[.pointer (some ⟨w1.heap.size+1,0,none⟩),.pointer (some ⟨w1.heap.size+1+1,0,none⟩)]] 123)) lb fb mb []:=⟨by rw [hmb,hlb]; go_simp,by rw [hfb,hlb]; unfold fv; go_simp,by rw [hmb]; exact mp_alloc (mp_alloc (heap_new w1 _)),by omega,by omega⟩
 have hmb1 : w.heap.size≤mb:=by omega
 have BE : Below w.heap.size w (((w1.alloc (.map #[] 0)).alloc (.cells #[.map (some w1.heap.size)] 194)).alloc (.cells #[.func (.func 123) #[] #[.pointer (some ⟨w1.heap.size+1,0,none⟩),.pointer (some ⟨w1.heap.size+1+1,0,none⟩)]] 123)):=bel
 have HF0:=Lib.hid F0
 have NL : lb≠mb:=by omega
 have NF : fb≠mb:=by omega
 clear F0
 go_wp2
 rw [← hmb,← hlb,← hfb] at *
 clear hmb hlb hfb hmm
 go_loopw [21] (fun ii wr=>∃ i : Nat,i≤n∧ii=.int .i64 i∧Hid (∃ ρ L,UF ρ L (shellR (l.take i))∧FS wr lb fb mb L)∧Below w.heap.size w wr) (fun ii _=>n - (intOf ii).toNat)
 case atStart=>exact ⟨0,Nat.zero_le _,rfl,Lib.hid ⟨fun _=>0,[],UF.nil _,HF0.out⟩,BE⟩
 case round =>
  obtain ⟨i,hi,rfl,hu,hb⟩:=hrel
  have hsz:=hb.size
  obtain ⟨ρ,L,hU,hF⟩:=hu.out
  clear hu HF0 BE
  by_cases hlt : i<n
  ·obtain ⟨t,hg⟩:=HG.out i hlt
   obtain ⟨b,off,rfl,hcl⟩:=HCL.out (by omega)
   obtain ⟨q0,q1,q2,q3,q4,q5,q6,q7,q8⟩:=ts_nine (hcl _ _ hg)
   have d0:=cell_below hb q0
   have d1:=cell_below hb q1
   have d2:=cell_below hb q2
   have d3:=cell_below hb q3
   have d4:=cell_below hb q4
   have d5:=cell_below hb q5
   have d6:=cell_below hb q6
   have d7:=cell_below hb q7
   have d8:=cell_below hb q8
   have HE:=Lib.hid (shellR_take hg)
   clear hg hcl q0 q1 q2 q3 q4 q5 q6 q7 q8
   obtain ⟨pa,pb,pc⟩:=t
   dsimp only at d0 d1 d2 d3 d4 d5 d6 d7 d8 HE
   obtain ⟨R,hR⟩ : ∃ R,R=shellR (l.take i):=⟨_,rfl⟩
   rw [← hR] at hU HE
   clear hR
   have hi0 : (0 : Int)≤(i : Int):=by omega
   have hin : (i : Int)<(n : Int):=by omega
   have m0:=hF.here
   have k0:=hF.map
   have kf:=hF.self
   have mlt:=mp_lt m0
   unfold fv at kf
   have HF:=Lib.hid hF
   have HU:=Lib.hid hU
   obtain ⟨tb,htb⟩ : ∃ x,x=wr.heap.size:=⟨_,rfl⟩
   have NT : tb≠mb:=by omega
   obtain ⟨V,hV⟩ : ∃ V,V=wr.alloc (.cells #[.string pa.x,.string pa.y,.string pa.z,.string pb.x,.string pb.y,.string pb.z,.string pc.x,.string pc.y,.string pc.z] 36):=⟨_,rfl⟩
   have FV0 : FS V lb fb mb L:=by rw [hV]; exact hF.gk (gk_alloc (gk_refl _ _)) (mp_alloc m0)
   have bV : Below w.heap.size w V:=by rw [hV]; exact ba hb
   have e0 : V.cell? ⟨tb,0,none⟩=some (.string pa.x):=by rw [hV,htb]; go_simp
   have e1 : V.cell? ⟨tb,1,none⟩=some (.string pa.y):=by rw [hV,htb]; go_simp
   have e2 : V.cell? ⟨tb,2,none⟩=some (.string pa.z):=by rw [hV,htb]; go_simp
   have e3 : V.cell? ⟨tb,3,none⟩=some (.string pb.x):=by rw [hV,htb]; go_simp
   have e4 : V.cell? ⟨tb,4,none⟩=some (.string pb.y):=by rw [hV,htb]; go_simp
   have e5 : V.cell? ⟨tb,5,none⟩=some (.string pb.z):=by rw [hV,htb]; go_simp
   have e6 : V.cell? ⟨tb,6,none⟩=some (.string pc.x):=by rw [hV,htb]; go_simp
   have e7 : V.cell? ⟨tb,7,none⟩=some (.string pc.y):=by rw [hV,htb]; go_simp
   have e8 : V.cell? ⟨tb,8,none⟩=some (.string pc.z):=by rw [hV,htb]; go_simp
   have el : V.cell? ⟨lb,0,none⟩=some (.map (some mb)):=FV0.map
   have ef : V.cell? ⟨fb,0,none⟩=some (.func (.func 123) #[] #[.pointer (some ⟨lb,0,none⟩),.pointer (some ⟨fb,0,none⟩)]):=FV0.self
   have HFV:=Lib.hid FV0
   have HFA:=Lib.hid (fun (R' : List (SV × SV)) (ρ' : SV→Nat) (p : SV)=>find_walk ρ' R' lb fb mb (ρ' p+1) p (Nat.lt_succ_self _))
   have LU:=Lib.hid (fun (V : World) (L' : List (SV × SV)) (s r : SV) (h : V.heap[mb]?=some (Mo SV.val SV.val L'))=>lm_update h s r)
   have HUN:=Lib.hid (fun (R' : List (SV × SV)) (ρ' : SV→Nat) (L' : List (SV × SV)) (x y : SV) (h : UF ρ' L' (touch (touch R' x) y))=>h.unite)
   clear hF hU m0 k0 kf FV0
   go_wp2
   rw [← hV,← htb]
   clear hV d0 d1 d2 d3 d4 d5 d6 d7 d8
   have HTB:=Lib.hid htb
   clear htb mlt
   go_region_held3 (fun w'=>w'.cell? ⟨lb,0,none⟩=some (.map (some mb))∧w'.cell? ⟨fb,0,none⟩=some (.func (.func 123) #[] #[.pointer (some ⟨lb,0,none⟩),.pointer (some ⟨fb,0,none⟩)])∧w'.cell? ⟨tb,0,none⟩=some (.string pa.x)∧w'.cell? ⟨tb,1,none⟩=some (.string pa.y)∧w'.cell? ⟨tb,2,none⟩=some (.string pa.z)∧w'.cell? ⟨tb,3,none⟩=some (.string pb.x)∧w'.cell? ⟨tb,4,none⟩=some (.string pb.y)∧w'.cell? ⟨tb,5,none⟩=some (.string pb.z)∧w'.cell? ⟨tb,6,none⟩=some (.string pc.x)∧w'.cell? ⟨tb,7,none⟩=some (.string pc.y)∧w'.cell? ⟨tb,8,none⟩=some (.string pc.z))
    ((go_split_ands; refine (fun (hT : GK V mb _)=>⟨hT.cell el NL,hT.cell ef NF,hT.cell e0 NT,hT.cell e1 NT,hT.cell e2 NT,hT.cell e3 NT,hT.cell e4 NT,hT.cell e5 NT,hT.cell e6 NT,hT.cell e7 NT,hT.cell e8 NT⟩) ?_; repeat (first | with_reducible assumption | with_reducible exact gk_refl _ _ | with_reducible refine gk_drew ?_ | with_reducible refine gk_set ?_)))
    (first | (go_at_call_of 123 (Value.agg #[Value.string pb.x,Value.string pb.y,Value.string pb.z]); refine (HFA.out (R) ρ pb _ L HU.out (by exact fs_step HFV.out (gk_refl _ _) HFV.out.here rfl)).mono ?_; rintro e y0 ⟨rfl,L0,hu0,m0,g0⟩; have G0 : GK V mb y0:=gk_trans (by first | exact gk_refl _ _ | exact gk_drew (gk_refl _ _)) g0; have U0:=Lib.hid hu0; have M0:=Lib.hid m0; clear hu0 m0 g0) | (go_at_call_of 123 (Value.agg #[Value.string pa.x,Value.string pa.y,Value.string pa.z]); refine (HFA.out (touch (R) pb) ρ pa _ L0 U0.out (by exact fs_step HFV.out G0 M0.out rfl)).mono ?_; rintro e y1 ⟨rfl,L1,hu1,m1,g1⟩; have G1 : GK V mb y1:=gk_trans (by first | exact G0 | exact gk_drew G0) g1; have U1:=Lib.hid hu1; have M1:=Lib.hid m1; have hup1 : ∀ X : World,X.heap=y1.heap→(Instr.mapUpdate 194 (.map (some mb)) (rootOf (touch (R) pb) pb).val (rootOf (touch (touch (R) pb) pa) pa).val).run Tryz.prog X=.ok () (setBlock X mb (Mo SV.val SV.val (kset L1 (rootOf (touch (R) pb) pb) (rootOf (touch (touch (R) pb) pa) pa)))):=fun X h=>LU.out X L1 _ _ (by rw [h]; exact M1.out); clear hu1 m1 g1))
   obtain ⟨ρ1,hU1⟩:=HUN.out (R) ρ L1 pb pa U1.out
   obtain ⟨Ln1,hLn⟩ : ∃ z,z=kset L1 (rootOf (touch (R) pb) pb) (rootOf (touch (touch (R) pb) pa) pa):=⟨_,rfl⟩
   rw [← hLn] at hU1 ⊢
   obtain ⟨Y1,hY⟩ : ∃ z,z=setBlock y1 mb (Mo SV.val SV.val Ln1):=⟨_,rfl⟩
   have GY1 : GK V mb Y1:=by rw [hY]; exact gk_set G1
   have MY1 : Hid (Y1.heap[mb]?=some (Mo SV.val SV.val Ln1)):=Lib.hid (by rw [hY]; exact setBlock_heap M1.out)
   have HU1:=Lib.hid hU1
   rw [← hY]
   clear hLn hY hU1 hup1 G0 G1
   go_wp2
   go_region_held3 (fun w'=>w'.cell? ⟨lb,0,none⟩=some (.map (some mb))∧w'.cell? ⟨fb,0,none⟩=some (.func (.func 123) #[] #[.pointer (some ⟨lb,0,none⟩),.pointer (some ⟨fb,0,none⟩)])∧w'.cell? ⟨tb,0,none⟩=some (.string pa.x)∧w'.cell? ⟨tb,1,none⟩=some (.string pa.y)∧w'.cell? ⟨tb,2,none⟩=some (.string pa.z)∧w'.cell? ⟨tb,3,none⟩=some (.string pb.x)∧w'.cell? ⟨tb,4,none⟩=some (.string pb.y)∧w'.cell? ⟨tb,5,none⟩=some (.string pb.z)∧w'.cell? ⟨tb,6,none⟩=some (.string pc.x)∧w'.cell? ⟨tb,7,none⟩=some (.string pc.y)∧w'.cell? ⟨tb,8,none⟩=some (.string pc.z))
    ((go_split_ands; refine (fun (hT : GK V mb _)=>⟨hT.cell el NL,hT.cell ef NF,hT.cell e0 NT,hT.cell e1 NT,hT.cell e2 NT,hT.cell e3 NT,hT.cell e4 NT,hT.cell e5 NT,hT.cell e6 NT,hT.cell e7 NT,hT.cell e8 NT⟩) ?_; repeat (first | with_reducible assumption | with_reducible exact gk_refl _ _ | with_reducible refine gk_drew ?_ | with_reducible refine gk_set ?_)))
    (first | (go_at_call_of 123 (Value.agg #[Value.string pc.x,Value.string pc.y,Value.string pc.z]); refine (HFA.out (unite R pb pa) ρ1 pc _ Ln1 HU1.out (by exact fs_step HFV.out GY1 MY1.out rfl)).mono ?_; rintro e y2 ⟨rfl,L2,hu2,m2,g2⟩; have G2 : GK V mb y2:=gk_trans (by first | exact GY1 | exact gk_drew GY1) g2; have U2:=Lib.hid hu2; have M2:=Lib.hid m2; clear hu2 m2 g2) | (go_at_call_of 123 (Value.agg #[Value.string pa.x,Value.string pa.y,Value.string pa.z]); refine (HFA.out (touch (unite R pb pa) pc) ρ1 pa _ L2 U2.out (by exact fs_step HFV.out G2 M2.out rfl)).mono ?_; rintro e y3 ⟨rfl,L3,hu3,m3,g3⟩; have G3 : GK V mb y3:=gk_trans (by first | exact G2 | exact gk_drew G2) g3; have U3:=Lib.hid hu3; have M3:=Lib.hid m3; have hup3 : ∀ X : World,X.heap=y3.heap→(Instr.mapUpdate 194 (.map (some mb)) (rootOf (touch (unite R pb pa) pc) pc).val (rootOf (touch (touch (unite R pb pa) pc) pa) pa).val).run Tryz.prog X=.ok () (setBlock X mb (Mo SV.val SV.val (kset L3 (rootOf (touch (unite R pb pa) pc) pc) (rootOf (touch (touch (unite R pb pa) pc) pa) pa)))):=fun X h=>LU.out X L3 _ _ (by rw [h]; exact M3.out); clear hu3 m3 g3))
   obtain ⟨ρ2,hU2⟩:=HUN.out (unite R pb pa) ρ1 L3 pc pa U3.out
   obtain ⟨Ln2,hLn⟩ : ∃ z,z=kset L3 (rootOf (touch (unite R pb pa) pc) pc) (rootOf (touch (touch (unite R pb pa) pc) pa) pa):=⟨_,rfl⟩
   rw [← hLn] at hU2 ⊢
   obtain ⟨Y2,hY⟩ : ∃ z,z=setBlock y3 mb (Mo SV.val SV.val Ln2):=⟨_,rfl⟩
   have GY2 : GK V mb Y2:=by rw [hY]; exact gk_set G3
   have MY2 : Hid (Y2.heap[mb]?=some (Mo SV.val SV.val Ln2)):=Lib.hid (by rw [hY]; exact setBlock_heap M3.out)
   have HU2:=Lib.hid hU2
   rw [← hY]
   clear hLn hY hU2 hup3 G2 G3
   have HUF : Hid (∃ ρ L,UF ρ L (shellR (l.take (i+1)))∧FS Y2 lb fb mb L):=Lib.hid ⟨ρ2,Ln2,by rw [HE.out]; exact HU2.out,fs_step HFV.out GY2 MY2.out rfl⟩
   have hbY : Below w.heap.size w Y2:=bV.trans (GY2.to_below hmb1 bV.size)
   clear GY1 GY2
   go_wp2
   go_roundw
   case rel=>exact ⟨i+1,by omega,by go_num,HUF,hbY⟩
   case measure=>simp [intOf]; omega
  ·obtain rfl : i=n:=by omega
   rw [HTE.out] at hU
   have hm:=hF.here
   have km:=hF.map
   have hLl : L.length≤2048:=by
    have h1:=congrArg List.length hU.keys
    rw [List.length_map,List.length_map] at h1
    have h2:=HLEN.out i (Nat.le_refl _)
    rw [HTE.out] at h2
    omega
   have HCT : Hid ((L.countP fun p=>decide (p.1=p.2))=shellsL l):=Lib.hid hU.count
   have hrn:=mo_range (P:=Tryz.prog) under_lm hm
   have hrs:=rg_start (f:=SV.val) (g:=SV.val) hm
   obtain ⟨r,hr⟩ : ∃ r,r=wr.heap.size:=⟨_,rfl⟩
   have hr1 : w.heap.size≤r:=by omega
   rw [← hr] at hrn hrs
   have HR:=Lib.hid hr
   have hb3 : Below w.heap.size w (wr.alloc (.mapIter (some mb) L.length #[] L.length)):=ba hb
   clear hr hm hF hU
   go_wp2
   obtain ⟨wi,hwi⟩ : ∃ x,x=wr:=⟨_,rfl⟩
   subst hwi
   go_loopw [9] (fun s9 wr=>(∃ seen,Rg wr r mb SV.val SV.val L seen∧s9=.int .i64 (cs seen L 0 : Nat))∧Below w.heap.size w wr) (fun _ wr=>rgLeft L SV.val SV.val (wr.iterSeen r))
   case atStart=>exact ⟨⟨#[],hrs,by rw [cs_none]; rfl⟩,hb3⟩
   case round =>
    obtain ⟨⟨seen,hrg,rfl⟩,hb4⟩:=hrel
    have hsz4:=hb4.size
    have hcl:=cs_le seen L 0
    rcases rg_next (P:=Tryz.prog) hrg 0 with ⟨hall,hrun⟩ | ⟨j,⟨sa,sb⟩,w',hp,hsj,hrun,hrg2,hlt3,⟨w2,hw1,hw2⟩,hen⟩
    ·have E : Hid (cs seen L 0=shellsL l):=Lib.hid (by rw [cs_full seen L 0 (fun j hj=>by rw [Nat.zero_add]; exact hall j hj)]; exact HCT.out)
     clear hall hrg HCL HG
     go_wp2
     go_ret2
     exact ⟨by rw [← E.out]; rfl,bel⟩
    ·have hb5 : Below w.heap.size w w':=by
      rw [hw2]
      rcases hw1 with rfl | rfl
      ·exact below_setBlock hb4 hr1 _
      ·exact below_setBlock (bd hb4) hr1 _
     have HME:=Lib.hid hlt3
     have HGr:=Lib.hid hrg
     have HG3:=Lib.hid hrg2
     have HCS:=Lib.hid (cs_push seen L 0 j (sa,sb) hp (by rw [Nat.zero_add]; exact hsj))
     rw [Nat.zero_add] at HCS
     have nq : ∀ w,(binOp .eql 26 (.agg #[.string sa.x,.string sa.y,.string sa.z]) (.agg #[.string sb.x,.string sb.y,.string sb.z])).run Tryz.prog w=.ok (.bool (decide (sa=sb))) w:=fun w=>by
      have:=eql_vec sa.x sa.y sa.z sb.x sb.y sb.z w
      rw [sv_eq] at this
      exact this
     unfold SV.val at hrun hen
     dsimp only at hrun hen
     have hsz5:=hb5.size
     obtain ⟨c,hc0⟩ : ∃ c,c=cs seen L 0:=⟨_,rfl⟩
     rw [← hc0] at HCS hcl ⊢
     have hc1 : (c : Int)≤2048:=by omega
     have hc2 : (0 : Int)≤(c : Int):=by omega
     clear hp hsj hlt3 hw1 hw2 hrg hrg2 HCL HG hc0
     by_cases hs : sa=sb
     ·have hs2 : decide (sa=sb)=true:=by simp [hs]
      have E : Hid (cs (seen.push j) L 0=c+1):=Lib.hid (by rw [HCS.out]; simp [hs])
      rw [hs2] at nq
      clear HCS hs hs2
      go_wp2
      go_roundw
      case rel=>exact ⟨⟨_,Rg_alloc (Rg_alloc HG3.out),by rw [E.out]; rfl⟩,bel⟩
      case measure=>rw [rg_seen (Rg_alloc (Rg_alloc HG3.out)),rg_seen HGr.out]; exact HME.out
     ·have hs2 : decide (sa=sb)=false:=by simp [hs]
      have E : Hid (cs (seen.push j) L 0=c):=Lib.hid (by rw [HCS.out]; simp [hs])
      rw [hs2] at nq
      clear HCS hs hs2
      go_wp2
      go_roundw
      case rel=>exact ⟨⟨_,Rg_alloc (Rg_alloc HG3.out),by rw [E.out]⟩,bel⟩
      case measure=>rw [rg_seen (Rg_alloc (Rg_alloc HG3.out)),rg_seen HGr.out]; exact HME.out
end Go.Proofs.YtopfedbhkfdjkaaGreatDoor

namespace Go.Proofs.YtopfedbhkfdjkaaGreatDoor
open Go Go.RowKit
theorem shells_txt (L : List (Tr V3)) : shellsL (L.map txt)=shellsL L:=shellsL_map (f:=txv) txv_apart L
theorem le_up {L : List (Tr V3)} {k m : Nat} (h : ∀ t ∈ L,t.a.le k∧t.b.le k∧t.c.le k) (hm : k≤m) : ∀ t ∈ L,t.a.le m∧t.b.le m∧t.c.le m :=
 fun t ht=>⟨(h t ht).1.mono hm,(h t ht).2.1.mono hm,(h t ht).2.2.mono hm⟩
end Go.Proofs.YtopfedbhkfdjkaaGreatDoor

/- clip: Between and Slices on numbers; law of chapter 13: awake is true. -/
namespace Go.Proofs.YtopfedbhkfdjkaaGreatDoor
open Go Go.RowKit
theorem leT_mono {L : List (Tr V3)} {k m : Nat} (h : leT L k) (hm : k≤m) : leT L m:=fun t ht=>⟨(h t ht).1.mono hm,(h t ht).2.1.mono hm,(h t ht).2.2.mono hm⟩
theorem under_ck {p : Pl} {L : List (Tr V3)} (hk : chkC (L.map txt)=0) (hS : (underL p L).length≤512) : chkC ((underL p L).map txt)=0 :=
 chk_ok hS (under_closed (by rw [← open_txt]; exact (chkC_zero hk).2.2) p)
theorem over_ck {p : Pl} {L : List (Tr V3)} (hk : chkC (L.map txt)=0) (hS : (overL p L).length≤512) : chkC ((overL p L).map txt)=0 :=
 chk_ok hS (over_closed (by rw [← open_txt]; exact (chkC_zero hk).2.2) p)
theorem cBetween_ok {n : V3} {a b : Rat} {L : List (Tr V3)} (h0 : n≠V3.zero) (hn : n.le 500) (ha : rz a≤500) (hb : rz b≤500) (hL : leT L 500) (hk : chkC (L.map txt)=0) (hl : L.length≤50) (hab : a<b) (v : Value) (w : World) (hB : Bw w) (hv : Ts w v (L.map txt)) :
  Calls Tryz.prog 23 #[v,VV n,.string (rtx a),.string (rtx b)] w (SolR ((overL ⟨n,a⟩ (underL ⟨n,b⟩ L)).map txt) w):=by
 obtain ⟨A,cap,rfl, -, -, -⟩:=hv.open
 have hll:=(parts_len ⟨n,b⟩ L).1
 have hll2:=(parts_len ⟨n,a⟩ (underL ⟨n,b⟩ L)).2
 have hL1 : leT L 100000:=leT_mono hL (by omega)
 have hp : ∀ c,rz c≤500→(⟨n,c⟩ : Pl).le 100000:=fun c hc=>⟨hn.mono (by omega),by show rz c≤_; omega⟩
 have hL2 : leT (underL ⟨n,b⟩ L) 100000:=(parts_le (k:=500) (m:=500) (p:=⟨n,b⟩) ⟨hn,hb⟩ hL (by omega)).2.2.2.1
 have hk2:=under_ck (p:=⟨n,b⟩) hk (by omega)
 have hc : rcmp a b = -1:=by unfold rcmp; rw [if_pos hab]
 rw [VV_eq]
 refine cBetween_at A _ cap (L.map txt) _ _ _ _ _ w hB hv ((underL ⟨n,b⟩ L).map txt) _ (fun w hB hv=>ck_ok h0 (hp a ha) hL1 hk _ w hB hv) (fun w hB hv=>ck_ok h0 (hp b hb) hL1 hk _ w hB hv) ?_ ?_ ?_
 ·intro w hB
  have:=rCompare_walk a b (by omega) (by omega) w hB
  rw [hc] at this
  exact this
 ·intro w hB hv
  exact cBelow_ok h0 (hp b hb) hL1 hk _ w hB hv (by omega)
 ·intro v w hB hv
  exact cAbove_ok h0 (hp a ha) hL2 hk2 _ w hB hv (by omega)
theorem cplane_ok {p : Pl} (h0 : p.n≠V3.zero) (hp : p.le 100000) (w : World) (hB : Bw w) :
  Calls Tryz.prog 60 #[.agg #[.string (rtx p.n.x),.string (rtx p.n.y),.string (rtx p.n.z),.string (rtx p.c)]] w fun e w'=>e=.returned (.int .i64 0)∧Below w.heap.size w w':=by
 have hn:=txv_le hp.1
 have hc:=rtx_size p.c
 have hc2:=hp.2
 have:=cplane_walk (txv p.n) (rtx p.c) ⟨by have:=hn.1; omega,by have:=hn.2.1; omega,by have:=hn.2.2; omega⟩ (by omega) w hB
 rw [plS_txt h0] at this
 exact this
noncomputable def rOf (c : ByteArray) : Rat:=Classical.epsilon fun q=>rtx q=c
theorem rOf_rtx (q : Rat) : rOf (rtx q)=q:=rtx_inj (Classical.epsilon_spec (p:=fun x=>rtx x=rtx q) ⟨q,rfl⟩)
theorem cSlices_ok {n : V3} {L : List (Tr V3)} (h0 : n≠V3.zero) (hn : n.le 100000) (hL : leT L 100000) (hk : chkC (L.map txt)=0) (cs : List Rat) (hc : ∀ c ∈ cs,rz c≤100000) (hm : cs.length≤32) (v u : Value) (w : World) (hB : Bw w) (hv : Ts w v (L.map txt)) (hu : Rs w u (cs.map rtx)) :
  Calls Tryz.prog 25 #[v,VV n,u] w (SlR (cs.map fun c=>(seL ⟨n,c⟩ L).map txe) w):=by
 obtain ⟨A,cap,rfl, -, -, -⟩:=hv.open
 obtain ⟨_,A2,cap2,rfl,hq2,hq3,hq4⟩:=hu
 have hu : Rs w (.slice A2 (cs.map rtx).length cap2) (cs.map rtx):=⟨‹_›,A2,cap2,rfl,hq2,hq3,hq4⟩
 have hl:=(chkC_zero hk).1
 have hz : rtx 0=⟨#[48]⟩:=rtx_zero
 have hmem : ∀ c ∈ (⟨#[48]⟩ :: cs.map rtx : List ByteArray),∃ q,c=rtx q∧rz q≤100000:=by
  intro c hcm
  rcases List.mem_cons.1 hcm with rfl | hcm
  ·exact ⟨0,hz.symm,by rw [rz_zero]; omega⟩
  ·obtain ⟨q,hq,rfl⟩:=List.mem_map.1 hcm
   exact ⟨q,rfl,hc q hq⟩
 have e : (cs.map fun c=>(seL ⟨n,c⟩ L).map txe)=(cs.map rtx).map fun c=>(seL ⟨n,rOf c⟩ L).map txe:=by
  rw [List.map_map]
  refine List.map_congr_left fun c _=>?_
  show _=(seL ⟨n,rOf (rtx c)⟩ L).map txe
  rw [rOf_rtx]
 rw [e,VV_eq]
 refine cSlices_at A A2 _ cap _ cap2 (L.map txt) (cs.map rtx) _ _ _ w hB hv hu (by rw [List.length_map]; exact hm) (fun w hB hv=>?_) (fun c hcm w hB=>?_) (fun c=>(dnL ⟨n,rOf c⟩ L).map txt) (fun c=>(upL ⟨n,rOf c⟩ L).map txt) _ (fun c hcm w hB hv=>?_)
 ·have:=check_walk _ (L.map txt) w hB hv (tle_txt hL (by omega))
  rw [hk] at this
  exact this
 ·obtain ⟨q,rfl,hq⟩:=hmem c hcm
  exact cplane_ok (p:=⟨n,q⟩) h0 ⟨hn,hq⟩ w hB
 ·obtain ⟨q,hq,rfl⟩:=List.mem_map.1 hcm
  rw [rOf_rtx]
  rw [List.length_map] at hv ⊢
  exact (csplit_walk L ⟨n,q⟩ h0 ⟨hn,hc q hq⟩ hL (by rw [List.length_map] at hl; omega) A cap w hB hv).mono fun _ _ h=>h.texts
/-! ### The example of the chapter -/
def nz : V3:=⟨0,0,1⟩
def nx : V3:=⟨1,0,0⟩
def pz1 : Pl:=⟨nz,1 / 2⟩
def pz2 : Pl:=⟨nz,1⟩
theorem rtx_half : rtx (1 / 2)=⟨#[49,47,50]⟩:=by decide +kernel
theorem nz_ne : nz≠V3.zero:=by unfold nz V3.zero; decide
theorem nx_ne : nx≠V3.zero:=by unfold nx V3.zero; decide
theorem nz_le : nz.le 1:=by unfold V3.le; decide +kernel
theorem nx_le : nx.le 1:=by unfold V3.le; decide +kernel
theorem half_le : rz (1 / 2)≤1:=by decide +kernel
theorem one_le : rz 1≤1:=by decide +kernel
theorem len_under : (underL pz1 box0).length=20:=by decide +kernel
theorem len_over : (overL pz1 box0).length=20:=by decide +kernel
theorem len_sec : (seL pz1 box0).length=8:=by decide +kernel
theorem len_mid : 0<(overL ⟨nx,1 / 2⟩ (underL ⟨nx,1⟩ box0)).length:=by decide +kernel
theorem len_slc : (seL ⟨nx,1⟩ box0).length=8:=by decide +kernel
theorem top_low : allP (fun q=>pz2.height q≤0) box0:=by unfold allP; decide +kernel
theorem PV_pz1 : PV pz1=.agg #[.string ⟨#[48]⟩,.string ⟨#[48]⟩,.string ⟨#[49]⟩,.string ⟨#[49,47,50]⟩]:=by
 rw [PV_eq]; simp only [pz1,nz,rtx_zero,rtx_one,rtx_half]
theorem PV_pz2 : PV pz2=.agg #[.string ⟨#[48]⟩,.string ⟨#[48]⟩,.string ⟨#[49]⟩,.string ⟨#[49]⟩]:=by
 rw [PV_eq]; simp only [pz2,nz,rtx_zero,rtx_one]
theorem VV_nx : VV nx=.agg #[.string ⟨#[49]⟩,.string ⟨#[48]⟩,.string ⟨#[48]⟩]:=by
 rw [VV_eq]; simp only [nx,rtx_zero,rtx_one]
theorem awake13_walk (w : World) (hB : Bw w) :
  Calls Tryz.prog 10 #[] w fun e w'=>e=.returned (.bool true)∧Below w.heap.size w w':=by
 have hb : chkC (box0.map txt)=0:=chk_ok (by rw [box0_len]; omega) box0_closed
 have hL : leT box0 1:=box0_le
 have hL1 : leT box0 100000:=leT_mono hL (by omega)
 have h1 : pz1.n≠V3.zero:=nz_ne
 have h2 : pz2.n≠V3.zero:=nz_ne
 have hp1 : pz1.le 1:=⟨nz_le,half_le⟩
 have hp2 : pz2.le 1:=⟨nz_le,one_le⟩
 have hq1 : pz1.le 100000:=⟨hp1.1.mono (by omega),Nat.le_trans hp1.2 (by omega)⟩
 have hq2 : pz2.le 100000:=⟨hp2.1.mono (by omega),Nat.le_trans hp2.2 (by omega)⟩
 have hpl:=parts_le (p:=pz1) (n:=100000) hp1 hL (by omega)
 have hck : ∀ L,leT L 100000→chkC (L.map txt)=0→∀ v w,Bw w→Ts w v (L.map txt)→Calls Tryz.prog 29 #[v] w fun e w'=>e=.returned (.int .i64 0)∧Below w.heap.size w w':=by
  intro L hl hk v w hB hv
  have:=check_walk v (L.map txt) w hB hv (tle_txt hl (by omega))
  rw [hk] at this
  exact this
 refine awake13_at (box0.map txt) ((underL pz1 box0).map txt) ((overL pz1 box0).map txt) ((overL ⟨nx,1 / 2⟩ (underL ⟨nx,1⟩ box0)).map txt) ((seL pz1 box0).map txe) ((seL ⟨nx,1⟩ box0).map txe) w hB (by rw [List.length_map,box0_len]) (by rw [List.length_map,len_under]; omega) (by rw [List.length_map,len_over]; omega) ?_ (by rw [List.length_map,len_sec]) (by rw [List.length_map,len_slc]) ?_ ?_ ?_ ?_ ?_ ?_ ?_ ?_ ?_ ?_ ?_
 rotate_left
 ·intro w hB
  have:=mbox_ok lo0 hi0 lo0_le hi0_le lo0_lt w hB
  rw [VV_lo0,VV_hi0] at this
  exact this
 ·intro v w hB hv
  have:=cBelow_ok h1 hq1 hL1 hb v w hB hv (by rw [len_under]; omega)
  rwa [PV_pz1] at this
 ·intro v w hB hv
  have:=cAbove_ok h1 hq1 hL1 hb v w hB hv (by rw [len_over]; omega)
  rwa [PV_pz1] at this
 ·intro v w hB hv
  have:=cSection_ok h1 hq1 hL1 hb v w hB hv
  rwa [PV_pz1] at this
 ·intro v w hB hv
  have e:=(parts_low top_low).1
  have:=cBelow_ok h2 hq2 hL1 hb v w hB hv (by rw [e,box0_len]; omega)
  rwa [PV_pz2,e] at this
 ·intro v w hB hv
  have e:=(cut_low top_low).2.2
  have:=cSection_ok h2 hq2 hL1 hb v w hB hv
  rwa [PV_pz2,e] at this
 ·intro v w hB hv
  have:=cBetween_ok (a:=1 / 2) (b:=1) nx_ne (nx_le.mono (by omega)) (Nat.le_trans half_le (by omega)) (Nat.le_trans one_le (by omega)) (leT_mono hL (by omega)) hb (by rw [box0_len]; omega) (by decide +kernel) v w hB hv
  rw [VV_nx,rtx_half,rtx_one] at this
  exact this
 ·intro v u w hB hv hu
  have:=cSlices_ok (n:=nx) nx_ne (nx_le.mono (by omega)) hL1 hb [1] (fun c hc=>by simp at hc; subst hc; exact Nat.le_trans one_le (by omega)) (by simp) v u w hB hv (by simpa [rtx_one] using hu)
  rw [VV_nx] at this
  exact this
 ·exact hck _ hpl.2.2.2.1 (under_ck hb (by rw [len_under]; omega))
 ·exact hck _ hpl.2.2.2.2 (over_ck hb (by rw [len_over]; omega))
 ·intro v1 v2 w h1 h2
  exact refSame_walk v1 v2 _ w h1 h2
 ·rw [List.length_map]; exact len_mid
end Go.Proofs.YtopfedbhkfdjkaaGreatDoor

/- laws of chapter 13: small inputs, and what clip answers on them. -/
namespace Go.Proofs.YtopfedbhkfdjkaaGreatDoor
open Go Go.RowKit
theorem few13_parts {l : List TV} {s : SV} {c : ByteArray} (h : few13 l s c=true) : fewT l=true∧isFew s=true∧c.size≤20:=by
 unfold few13 at h
 simp only [Bool.and_eq_true,decide_eq_true_eq] at h
 exact h
theorem few13_len {l : List TV} {s : SV} {c : ByteArray} (h : few13 l s c=true) : l.length≤513:=few_len (few13_parts h).1
theorem clone13 (l : List TV) (hm : l.length≤513) : ∀ (A : Option Addr) (cap : Nat) (w : World),Ts w (.slice A l.length cap) l →
  Calls Tryz.prog 13 #[.slice A l.length cap] w (Ret fun r w'=>(∃ A c,r=.slice A l.length c∧Ts w' (.slice A l.length c) l)∧Below w.heap.size w w') :=
 fun A cap w hv=>clone_sl _ l _ rfl (by omega) w hv
theorem few_short {l : List TV} (h : fewT l=true) (hn : l.length≤512) : l.length≤40:=by
 unfold fewT fewLen at h
 simp only [Bool.and_eq_true,Bool.or_eq_true,decide_eq_true_eq] at h
 omega
theorem in13 {l : List TV} {s : SV} {c : ByteArray} (h : few13 l s c=true) : (∃ (L : List (Tr V3)) (p : Pl),l=L.map txt∧s=txv p.n∧c=rtx p.c∧p.n≠V3.zero∧p.le 20∧leT L 20∧chkC (L.map txt)=0∧L.length≤40)∨chkS l s c≠0:=by
 obtain ⟨h1,h2,h3⟩:=few13_parts h
 by_cases hz : chkS l s c=0
 ·unfold chkS at hz
  by_cases hk : chkC l=0
  ·rw [if_pos hk] at hz
   obtain ⟨k1,k2,k3⟩:=chkC_zero hk
   obtain ⟨L,rfl⟩:=solid_of k2
   rcases plS_cases s c with hp | ⟨p,rfl,rfl,h0,_⟩
   ·rw [hp] at hz; cases hz
   ·refine .inl ⟨L,p,rfl,rfl,rfl,h0,⟨few_le h2,rz_few h3⟩,few_leT h1,hk, ?_⟩
    have:=few_short h1 k1
    rwa [List.length_map] at this
  ·rw [if_neg hk] at hz
   exact absurd hz hk
 ·exact .inr hz
theorem bad13 {l : List TV} {s : SV} {c : ByteArray} (h : few13 l s c=true) (hz : chkS l s c≠0) :
  (∀ v w,Bw w→Ts w v l→Calls Tryz.prog 12 #[v,.agg #[.string s.x,.string s.y,.string s.z,.string c]] w fun e w'=>e=.returned (.tuple #[.slice none 0 0,.int .i64 (chkS l s c)])∧Below w.heap.size w w') ∧
  (∀ v w,Bw w→Ts w v l→Calls Tryz.prog 15 #[v,.agg #[.string s.x,.string s.y,.string s.z,.string c]] w fun e w'=>e=.returned (.tuple #[.slice none 0 0,.int .i64 (chkS l s c)])∧Below w.heap.size w w') ∧
  (∀ v w,Bw w→Ts w v l→Calls Tryz.prog 17 #[v,.agg #[.string s.x,.string s.y,.string s.z,.string c]] w fun e w'=>e=.returned (.tuple #[.slice none 0 0,.int .i64 (chkS l s c)])∧Below w.heap.size w w'):=by
 obtain ⟨h1,h2,h3⟩:=few13_parts h
 have hs:=few_sv h2
 have hs2 : s.le 1000000:=by
  simp only [isFew,Bool.and_eq_true,decide_eq_true_eq] at h2
  exact ⟨by have:=h2.1.1; omega,by have:=h2.1.2; omega,by have:=h2.2; omega⟩
 have hk : ∀ v w,Bw w→Ts w v l→_:=fun v w hB hv=>ccheck_walk v l s c w hB hv (few_tle h1) hs2 (by omega)
 have hb : (chkS l s c != 0)=true:=by simpa using hz
 refine ⟨fun v w hB hv=>?_,fun v w hB hv=>?_,fun v w hB hv=>?_⟩
 ·obtain ⟨A,cap,rfl, -, -, -⟩:=hv.open
  exact cBelow_bad A _ cap l _ _ _ _ w hB hv _ hb (fun w hB hv=>hk _ w hB hv)
 ·obtain ⟨A,cap,rfl, -, -, -⟩:=hv.open
  exact cAbove_bad A _ cap l _ _ _ _ w hB hv _ hb (fun w hB hv=>hk _ w hB hv)
 ·obtain ⟨A,cap,rfl, -, -, -⟩:=hv.open
  exact cSection_bad A _ cap l _ _ _ _ w hB hv _ hb (fun w hB hv=>hk _ w hB hv)
section
variable {p : Pl} {L : List (Tr V3)} (h0 : p.n≠V3.zero) (hp : p.le 100000) (hL : leT L 100000) (hk : chkC (L.map txt)=0) (v : Value) (w : World) (hB : Bw w) (hv : Ts w v (L.map txt))
include h0 hp hL hk hB hv
theorem cBelow13 (hS : (underL p L).length≤512) : Calls Tryz.prog 12 #[v,.agg #[.string (rtx p.n.x),.string (rtx p.n.y),.string (rtx p.n.z),.string (rtx p.c)]] w (SolR ((underL p L).map txt) w):=by
 have:=cBelow_ok h0 hp hL hk v w hB hv hS
 rwa [PV_eq] at this
end
end Go.Proofs.YtopfedbhkfdjkaaGreatDoor

/- law of chapter 13: ClipSides: the walk. -/
namespace Go.Proofs.YtopfedbhkfdjkaaGreatDoor
open Go Go.RowKit
def SideOK (x1 x2 x3 x4 : ByteArray) (q : Int→Prop) (x : SV) : Prop:=∃ s,q s∧∀ w,Bw w→Calls Tryz.prog 30 #[.agg #[.string x1,.string x2,.string x3,.string x4],.agg #[.string x.x,.string x.y,.string x.z]] w fun e w'=>e=.returned (.tuple #[.int .i64 s,.int .i64 0])∧Below w.heap.size w w'
end Go.Proofs.YtopfedbhkfdjkaaGreatDoor

/- Solids in plain Lean: neither the order of the triangles nor which point of a triangle is the first one matters for closedness, convexity and shells. No program in sight. -/
namespace Go.Proofs.YtopfedbhkfdjkaaGreatDoor
open Go Go.RowKit
section
variable {α : Type}
def Tr.rot (t : Tr α) : Tr α:=⟨t.b,t.c,t.a⟩
variable [DecidableEq α]
/-! ### What the roots say -/
end
end Go.Proofs.YtopfedbhkfdjkaaGreatDoor

/- law of chapter 12: MeshOrder: its walk. -/
namespace Go.Proofs.YtopfedbhkfdjkaaGreatDoor
open Go Go.RowKit
theorem mConvex_bad (v : Value) (l : List TV) (z : Int) (w : World) (hB : Bw w) (hv : Ts w v l) (hs : tle l 40000000) (hz : chkC l=z) (h0 : z≠0) :
  Calls Tryz.prog 41 #[v] w fun e w'=>e=.returned (.tuple #[.bool false,.int .i64 z])∧Below w.heap.size w w':=by
 have H:=Lib.hid (fun w hB hv=>check_walk v l w hB hv hs)
 rw [hz] at H
 obtain ⟨A,cap,rfl,hn,hc,hcell⟩:=hv.open
 clear hcell hn hc hs hz
 go_enter Tryz.func41,Tryz.ntmps41
 go_wp2_with fail
 refine (H.out _ (hB.below bel) (hv.below bel)).mono ?_
 rintro e w1 ⟨rfl,g1⟩
 have B1:=bn (w:=w) bel g1
 clear g1
 go_wp2
 go_ret2
 exact ⟨rfl,bel⟩
/-! ### Parts of a row -/
section
variable {P : Program} {ops : Array Oper} {o : Oper} {a : Act} {K : Act→World→Prop} {Q : Exit→Act→World→Prop} {E : Prop}
end
/-! ### A triangle stored into a row of triangles -/
end Go.Proofs.YtopfedbhkfdjkaaGreatDoor

/- law of chapter 13: ClipConvex: solid, and the law's walk. -/
namespace Go.Proofs.YtopfedbhkfdjkaaGreatDoor
open Go Go.RowKit
def RetB (w : World) (e : Ending) (w' : World) : Prop:=∃ b : Bool,e=.returned (.bool b)∧Below w.heap.size w w'
def RetZ (w : World) (e : Ending) (w' : World) : Prop:=∃ z : Int,e=.returned (.int .i64 z)∧Below w.heap.size w w'
theorem vs_nth {w : World} {A : Option Addr} {n cap k : Nat} {l : List SV} {s : SV} (h : Vs w (.slice A n cap) l) (hg : l[k]?=some s) :
  ∃ b off,A=some ⟨b,off,none⟩∧w.cell? ⟨b,off+k * 3,none⟩=some (.string s.x)∧w.cell? ⟨b,off+k * 3+1,none⟩=some (.string s.y)∧w.cell? ⟨b,off+k * 3+2,none⟩=some (.string s.z):=by
 obtain ⟨A',cap',hv,_,_,hcell⟩:=h.open
 cases hv
 obtain ⟨b,off,hA,hcl⟩:=hcell (by have:=(List.getElem?_eq_some_iff.1 hg).1; omega)
 exact ⟨b,off,hA,hcl k s hg⟩
set_option maxHeartbeats 1000000 in
theorem solid1_walk (x1 x2 x3 x4 : ByteArray) (s : SV) (pb : Nat) (w : World) (hB : Bw w) (hk : Bk w pb [.string x1,.string x2,.string x3,.string x4]) (hs : SideOK x1 x2 x3 x4 (fun _=>True) s) :
  Calls Tryz.prog 80 #[.agg #[.string s.x,.string s.y,.string s.z],.pointer (some ⟨pb,0,none⟩)] w (RetB w):=by
 obtain ⟨z, -,h⟩:=hs
 have H:=Lib.hid h
 obtain ⟨p0,p1,p2,p3, -⟩:=hk.c4
 have hl:=hk.lt
 clear h hk
 generalize s.x=y1 at *
 generalize s.y=y2 at *
 generalize s.z=y3 at *
 go_enter Tryz.func80,Tryz.ntmps80
 go_wp2_with fail
 refine (H.out _ (hB.below bel)).mono ?_
 rintro e w1 ⟨rfl,g1⟩
 have B1:=bn (w:=w) bel g1
 clear g1
 go_wp2
 go_ret
 exact ⟨_,rfl,bel⟩
set_option maxHeartbeats 1000000 in
theorem indexS_walk (x1 x2 x3 x4 : ByteArray) (v : Value) (l : List SV) (pb : Nat) (w : World) (hB : Bw w) (hv : Vs w v l) (hk : Bk w pb [.string x1,.string x2,.string x3,.string x4]) (hs : ∀ s ∈ l,SideOK x1 x2 x3 x4 (fun _=>True) s) (hm : l.length≤1000000) :
  Calls Tryz.prog 124 #[v,.func (.func 80) #[] #[.pointer (some ⟨pb,0,none⟩)]] w (RetZ w):=by
 obtain ⟨A,cap,rfl, -, -, -⟩:=hv.open
 have HV:=Lib.hid hv
 have HK:=Lib.hid hk
 have HS:=Lib.hid hs
 obtain ⟨n,hn0⟩ : ∃ n,n=l.length:=⟨_,rfl⟩
 have HG:=Lib.hid (fun k (hk : k<n)=>(show ∃ s,l[k]?=some s from ⟨_,List.getElem?_eq_getElem (by rw [← hn0]; exact hk)⟩))
 rw [← hn0] at HV hm ⊢
 clear hv hk hs hn0
 go_enter Tryz.func124,Tryz.ntmps124
 go_wp2
 go_loopw [8] (fun ii wr=>∃ k : Nat,k≤n∧ii=.int .i64 k∧Below w.heap.size w wr) (fun ii _=>n - (intOf ii).toNat)
 case atStart=>exact ⟨0,Nat.zero_le _,rfl,Below.refl _ _⟩
 case round =>
  obtain ⟨k,hk,rfl,hb⟩:=hrel
  by_cases hlt : k<n
  ·obtain ⟨s,hg⟩:=HG.out k hlt
   obtain ⟨b,off,hA,c0,c1,c2⟩:=vs_nth (HV.out.below hb) hg
   subst hA
   have H1:=Lib.hid (solid1_walk x1 x2 x3 x4 s pb wr (hB.below hb) (HK.out.below hb) (HS.out s (List.mem_of_getElem? hg)))
   have hk0 : (0 : Int)≤(k : Int):=by omega
   have hkn : (k : Int)<(n : Int):=by omega
   clear hg
   generalize s.x=y1 at *
   generalize s.y=y2 at *
   generalize s.z=y3 at *
   go_wp2_with fail
   refine H1.out.mono ?_
   rintro e w1 ⟨r,rfl,g1⟩
   have hb1 : Below w.heap.size w w1:=bn hb g1
   clear g1
   cases r
   ·go_wp2
    go_roundw
    case rel=>exact ⟨k+1,by omega,by go_num,hb1⟩
    case measure=>simp [intOf]; omega
   ·go_wp2
    go_ret
    exact ⟨_,rfl,hb1⟩
  ·go_wp2
   go_ret
   exact ⟨_,rfl,hb⟩
set_option maxHeartbeats 1000000 in
theorem containsS_walk (x1 x2 x3 x4 : ByteArray) (v : Value) (l : List SV) (pb : Nat) (w : World) (hB : Bw w) (hv : Vs w v l) (hk : Bk w pb [.string x1,.string x2,.string x3,.string x4]) (hs : ∀ s ∈ l,SideOK x1 x2 x3 x4 (fun _=>True) s) (hm : l.length≤1000000) :
  Calls Tryz.prog 79 #[v,.func (.func 80) #[] #[.pointer (some ⟨pb,0,none⟩)]] w (RetB w):=by
 have H:=Lib.hid (indexS_walk x1 x2 x3 x4 v l pb w hB hv hk hs hm)
 obtain ⟨A,cap,rfl, -, -, -⟩:=hv.open
 clear hv hk hs hm
 go_enter Tryz.func79,Tryz.ntmps79
 go_wp2_with fail
 refine H.out.mono ?_
 rintro e w1 ⟨z,rfl,g1⟩
 go_wp2
 go_ret
 exact ⟨_,rfl,g1⟩
def ThrOK (t : TV) (Q : ByteArray→ByteArray→ByteArray→ByteArray→Prop) : Prop :=
 ((∀ w,Bw w→Calls Tryz.prog 77 #[.agg #[.string t.a.x,.string t.a.y,.string t.a.z],.agg #[.string t.b.x,.string t.b.y,.string t.b.z],.agg #[.string t.c.x,.string t.c.y,.string t.c.z]] w fun e w'=>e=.returned (.tuple #[.agg #[.string ⟨#[]⟩,.string ⟨#[]⟩,.string ⟨#[]⟩,.string ⟨#[]⟩],.int .i64 16])∧Below w.heap.size w w') ∨
  ∃ x1 x2 x3 x4,Q x1 x2 x3 x4∧∀ w,Bw w→Calls Tryz.prog 77 #[.agg #[.string t.a.x,.string t.a.y,.string t.a.z],.agg #[.string t.b.x,.string t.b.y,.string t.b.z],.agg #[.string t.c.x,.string t.c.y,.string t.c.z]] w fun e w'=>e=.returned (.tuple #[.agg #[.string x1,.string x2,.string x3,.string x4],.int .i64 0])∧Below w.heap.size w w')
set_option maxHeartbeats 4000000 in
set_option maxRecDepth 100000 in
theorem solid_at (A : Option Addr) (n cap : Nat) (l : List TV) (ps : List SV) (q : Nat) (w : World) (hB : Bw w) (hv : Ts w (.slice A n cap) l) (hn : n=l.length) (hm : n≤1000000) (hps : ps.length≤1000000)
  (hcl : ∀ A cap w,Ts w (.slice A n cap) l→Calls Tryz.prog 13 #[.slice A n cap] w (Ret fun r w'=>(∃ A c,r=.slice A n c∧Ts w' (.slice A n c) l)∧Below w.heap.size w w'))
  (h1 : ∀ v w,Bw w→Ts w v l→Calls Tryz.prog 78 #[v] w fun e w'=>e=.returned (.tuple #[.int .i64 q,.int .i64 0])∧Below w.heap.size w w')
  (h2 : ∀ v w,Bw w→Ts w v l→Calls Tryz.prog 38 #[v] w (Ret fun r w'=>(∃ u,r=.tuple #[u,.int .i64 0]∧Vs w' u ps)∧Below w.heap.size w w'))
  (h3 : ∀ t ∈ l,ThrOK t fun x1 x2 x3 x4=>∀ s ∈ ps,SideOK x1 x2 x3 x4 (fun _=>True) s) :
  Calls Tryz.prog 42 #[.slice A n cap] w (RetB w):=by
 have HV:=Lib.hid hv
 have HCL:=Lib.hid hcl
 have H1:=Lib.hid h1
 have H2:=Lib.hid h2
 have H3:=Lib.hid h3
 have HN:=Lib.hid hn
 have HPS:=Lib.hid hps
 clear hv hcl h1 h2 h3 hn hps
 go_enter Tryz.func42,Tryz.ntmps42
 go_wp2_with fail
 refine (HCL.out _ _ _ (HV.out.below bel)).mono ?_
 rintro e w1 ⟨_,rfl,⟨A1,c1,rfl,q1⟩,g1⟩
 have V1:=Lib.hid q1
 have B1:=bn (w:=w) bel g1
 clear q1 g1
 go_wp2_with fail
 refine (H1.out _ _ (hB.below B1) V1.out).mono ?_
 rintro e w2 ⟨rfl,g2⟩
 have B2 : Below w.heap.size w w2:=bn B1 g2
 clear g2 V1
 go_wp2_with fail
 refine (HCL.out _ _ _ (HV.out.below B2)).mono ?_
 rintro e w3 ⟨_,rfl,⟨A3,c3,rfl,q3⟩,g3⟩
 have V3:=Lib.hid q3
 have B3 : Below w.heap.size w w3:=bn B2 g3
 clear q3 g3
 go_wp2_with fail
 refine (H2.out _ _ (hB.below B3) V3.out).mono ?_
 rintro e w4 ⟨_,rfl,⟨u,rfl,q4⟩,g4⟩
 obtain ⟨A4,c4,rfl, -, -, -⟩:=q4.open
 obtain ⟨m,hm0⟩ : ∃ x,x=ps.length:=⟨_,rfl⟩
 rw [← hm0] at q4 ⊢
 have V4:=Lib.hid q4
 have B4 : Below w.heap.size w w4:=bn B3 g4
 replace HV:=Lib.hid (HV.out.below B4)
 clear q4 g4 V3 hm0
 by_cases hq : q=1
 ·subst hq
  go_wp2_with fail
  go_loopw [35] (fun ii wr=>∃ k : Nat,k≤n∧ii=.int .i64 k∧Below w4.heap.size w4 wr) (fun ii _=>n - (intOf ii).toNat)
  case atStart=>exact ⟨0,Nat.zero_le _,rfl,Below.refl _ _⟩
  case round =>
   obtain ⟨k,hk,rfl,hb⟩:=hrel
   have BR : Below w.heap.size w wr:=bn B4 hb
   by_cases hlt : k<n
   ·obtain ⟨t,hg⟩ : ∃ t,l[k]?=some t:=⟨_,List.getElem?_eq_getElem (by rw [← HN.out]; exact hlt)⟩
    obtain ⟨b,off,hA,t0,t1,t2,t3,t4,t5,t6,t7,t8⟩:=ts_nth (HV.out.below hb) hg
    subst hA
    have hk0 : (0 : Int)≤(k : Int):=by omega
    have hkn : (k : Int)<(n : Int):=by omega
    have hbl:=World.block_lt_of_cell? wr _ t0
    have hthr:=H3.out t (List.mem_of_getElem? hg)
    unfold ThrOK at hthr
    clear hg
    generalize t.a.x=r0 at *
    generalize t.a.y=r1 at *
    generalize t.a.z=r2 at *
    generalize t.b.x=r3 at *
    generalize t.b.y=r4 at *
    generalize t.b.z=r5 at *
    generalize t.c.x=r6 at *
    generalize t.c.y=r7 at *
    generalize t.c.z=r8 at *
    rcases hthr with h | ⟨y1,y2,y3,y4,hs,h⟩
    ·have HT:=Lib.hid h
     clear h
     go_wp2_with fail
     refine (HT.out _ (hB.below bel)).mono ?_
     rintro e w5 ⟨rfl,g5⟩
     have B5:=bn (w:=w) bel g5
     clear g5 t0 t1 t2 t3 t4 t5 t6 t7 t8
     go_wp2
     go_ret
     exact ⟨_,rfl,bel⟩
    ·have HT:=Lib.hid h
     have HS:=Lib.hid hs
     clear h hs
     go_wp2_with fail
     refine (HT.out _ (hB.below bel)).mono ?_
     rintro e w5 ⟨rfl,g5⟩
     have hb5 : Below w4.heap.size w4 w5:=bn (ba hb) g5
     have B5 : Below w.heap.size w w5:=bn B4 hb5
     clear g5 t0 t1 t2 t3 t4 t5 t6 t7 t8
     have KP : Hid (Bk (w5.alloc (.cells #[.string y1,.string y2,.string y3,.string y4] 28)) w5.heap.size [.string y1,.string y2,.string y3,.string y4]):=Lib.hid (bk_at rfl)
     have hb6 : Below w4.heap.size w4 (w5.alloc (.cells #[.string y1,.string y2,.string y3,.string y4] 28)):=ba hb5
     go_wp2_with fail
     refine (containsS_walk y1 y2 y3 y4 _ ps _ _ (hB.below (ba B5)) (V4.out.below hb6) KP.out HS.out HPS.out).mono ?_
     rintro e w7 ⟨r,rfl,g7⟩
     have hb7 : Below w4.heap.size w4 w7:=bn hb6 g7
     have B7 : Below w.heap.size w w7:=bn B4 hb7
     clear g7 hb6 KP
     cases r
     ·go_wp2
      go_ret
      exact ⟨_,rfl,B7⟩
     ·go_wp2
      go_roundw
      case rel=>exact ⟨k+1,by omega,by go_num,hb7⟩
      case measure=>simp [intOf]; omega
   ·go_wp2
    go_ret
    exact ⟨_,rfl,BR⟩
 ·have hq2 : ((q : Int) != 1)=true:=by simpa using (by omega : ¬ (q : Int)=1)
  go_wp2
  go_ret
  exact ⟨_,rfl,B4⟩
set_option maxHeartbeats 4000000 in
set_option maxRecDepth 100000 in
theorem convex13_out (A : Option Addr) (n cap : Nat) (l : List TV) (x1 x2 x3 x4 : ByteArray) (w : World) (hB : Bw w) (hv : Ts w (.slice A n cap) l)
  (hf : ∀ w,Ts w (.slice A n cap) l→Calls Tryz.prog 11 #[.slice A n cap,.agg #[.string x1,.string x2,.string x3,.string x4]] w fun e w'=>e=.returned (.bool false)∧Below w.heap.size w w') :
  Calls Tryz.prog 9 #[.slice A n cap,.agg #[.string x1,.string x2,.string x3,.string x4]] w fun e w'=>e=.returned (.bool true)∧Below w.heap.size w w':=by
 have HV:=Lib.hid hv
 clear hv
 have H0:=Lib.hid (fun w hB=>awake13_walk w hB)
 have HF:=Lib.hid hf
 clear hf
 go_enter Tryz.func9,Tryz.ntmps9
 go_wp2_with fail
 refine (H0.out _ (hB.below bel)).mono ?_
 rintro e w1 ⟨rfl,g1⟩
 have HP:=Lib.hid (show Bk w1 w.heap.size [.string x1,.string x2,.string x3,.string x4] from Bk.below bkk g1)
 have S1:=bn (w:=w) bel g1
 replace HV:=Lib.hid (HV.out.below S1)
 have B1:=S1
 clear S1 g1
 obtain ⟨p0,p1,p2,p3, -⟩:=HP.out.c4
 have hpl:=HP.out.lt
 go_wp2_with fail
 refine (HF.out _ (HV.out.below bel)).mono ?_
 rintro e w2 ⟨rfl,g2⟩
 clear p0 p1 p2 p3 hpl
 have S2 : Below w1.heap.size w1 w2:=bn bel g2
 clear g2
 replace HV:=Lib.hid (HV.out.below S2)
 replace HP:=Lib.hid (HP.out.below S2)
 have B2 : Below w.heap.size w w2:=bn B1 S2
 clear S2
 go_wp2_with fail
 refine (H0.out _ (hB.below bel)).mono ?_
 rintro e w3 ⟨rfl,g3⟩
 have S3 : Below w2.heap.size w2 w3:=bn bel g3
 clear g3
 replace HV:=Lib.hid (HV.out.below S3)
 replace HP:=Lib.hid (HP.out.below S3)
 have B3 : Below w.heap.size w w3:=bn B2 S3
 clear S3
 go_wp2
 go_ret
 exact ⟨rfl,bel⟩
set_option maxHeartbeats 4000000 in
set_option maxRecDepth 100000 in
theorem convex13_many (A : Option Addr) (n cap : Nat) (l : List TV) (x1 x2 x3 x4 : ByteArray) (w : World) (hB : Bw w) (hv : Ts w (.slice A n cap) l)
  (hn : (16 : Int)<(n : Int))
  (hf : ∀ w,Ts w (.slice A n cap) l→Calls Tryz.prog 11 #[.slice A n cap,.agg #[.string x1,.string x2,.string x3,.string x4]] w fun e w'=>e=.returned (.bool true)∧Below w.heap.size w w') :
  Calls Tryz.prog 9 #[.slice A n cap,.agg #[.string x1,.string x2,.string x3,.string x4]] w fun e w'=>e=.returned (.bool true)∧Below w.heap.size w w':=by
 have HV:=Lib.hid hv
 clear hv
 have H0:=Lib.hid (fun w hB=>awake13_walk w hB)
 have HF:=Lib.hid hf
 clear hf
 go_enter Tryz.func9,Tryz.ntmps9
 go_wp2_with fail
 refine (H0.out _ (hB.below bel)).mono ?_
 rintro e w1 ⟨rfl,g1⟩
 have HP:=Lib.hid (show Bk w1 w.heap.size [.string x1,.string x2,.string x3,.string x4] from Bk.below bkk g1)
 have S1:=bn (w:=w) bel g1
 replace HV:=Lib.hid (HV.out.below S1)
 have B1:=S1
 clear S1 g1
 obtain ⟨p0,p1,p2,p3, -⟩:=HP.out.c4
 have hpl:=HP.out.lt
 go_wp2_with fail
 refine (HF.out _ (HV.out.below bel)).mono ?_
 rintro e w2 ⟨rfl,g2⟩
 clear p0 p1 p2 p3 hpl
 have S2 : Below w1.heap.size w1 w2:=bn bel g2
 clear g2
 replace HV:=Lib.hid (HV.out.below S2)
 replace HP:=Lib.hid (HP.out.below S2)
 have B2 : Below w.heap.size w w2:=bn B1 S2
 clear S2
 go_wp2_with fail
 refine (H0.out _ (hB.below bel)).mono ?_
 rintro e w3 ⟨rfl,g3⟩
 have S3 : Below w2.heap.size w2 w3:=bn bel g3
 clear g3
 replace HV:=Lib.hid (HV.out.below S3)
 replace HP:=Lib.hid (HP.out.below S3)
 have B3 : Below w.heap.size w w3:=bn B2 S3
 clear S3
 go_wp2
 go_ret
 exact ⟨rfl,bel⟩
set_option maxHeartbeats 4000000 in
set_option maxRecDepth 100000 in
theorem convex13_bad1 (A : Option Addr) (n cap : Nat) (l : List TV) (x1 x2 x3 x4 : ByteArray) (w : World) (hB : Bw w) (hv : Ts w (.slice A n cap) l)
  (z : Int) (hz : (z != 0)=true)
  (hn16 : (n : Int)≤16)
  (hf : ∀ w,Ts w (.slice A n cap) l→Calls Tryz.prog 11 #[.slice A n cap,.agg #[.string x1,.string x2,.string x3,.string x4]] w fun e w'=>e=.returned (.bool true)∧Below w.heap.size w w')
  (hcl : ∀ A cap w,Ts w (.slice A n cap) l→Calls Tryz.prog 13 #[.slice A n cap] w (Ret fun r w'=>(∃ A c,r=.slice A n c∧Ts w' (.slice A n c) l)∧Below w.heap.size w w'))
  (hc : ∀ v w,Bw w→Ts w v l→Calls Tryz.prog 41 #[v] w fun e w'=>e=.returned (.tuple #[.bool false,.int .i64 z])∧Below w.heap.size w w')
  (h1 : ∀ A cap w,Bw w→Ts w (.slice A n cap) l→Calls Tryz.prog 12 #[.slice A n cap,.agg #[.string x1,.string x2,.string x3,.string x4]] w fun e w'=>e=.returned (.tuple #[.slice none 0 0,.int .i64 z])∧Below w.heap.size w w') :
  Calls Tryz.prog 9 #[.slice A n cap,.agg #[.string x1,.string x2,.string x3,.string x4]] w fun e w'=>e=.returned (.bool true)∧Below w.heap.size w w':=by
 have HV:=Lib.hid hv
 clear hv
 have H0:=Lib.hid (fun w hB=>awake13_walk w hB)
 have HF:=Lib.hid hf
 clear hf
 have HCL:=Lib.hid hcl
 clear hcl
 have HC:=Lib.hid hc
 clear hc
 have H1:=Lib.hid h1
 clear h1
 go_enter Tryz.func9,Tryz.ntmps9
 go_wp2_with fail
 refine (H0.out _ (hB.below bel)).mono ?_
 rintro e w1 ⟨rfl,g1⟩
 have HP:=Lib.hid (show Bk w1 w.heap.size [.string x1,.string x2,.string x3,.string x4] from Bk.below bkk g1)
 have S1:=bn (w:=w) bel g1
 replace HV:=Lib.hid (HV.out.below S1)
 have B1:=S1
 clear S1 g1
 obtain ⟨p0,p1,p2,p3, -⟩:=HP.out.c4
 have hpl:=HP.out.lt
 go_wp2_with fail
 refine (HF.out _ (HV.out.below bel)).mono ?_
 rintro e w2 ⟨rfl,g2⟩
 clear p0 p1 p2 p3 hpl
 have S2 : Below w1.heap.size w1 w2:=bn bel g2
 clear g2
 replace HV:=Lib.hid (HV.out.below S2)
 replace HP:=Lib.hid (HP.out.below S2)
 have B2 : Below w.heap.size w w2:=bn B1 S2
 clear S2
 go_wp2_with fail
 refine (HCL.out _ _ _ (HV.out.below bel)).mono ?_
 rintro e w3 ⟨_,rfl,⟨A9,c9,rfl,q9⟩,g3⟩
 have V9:=Lib.hid q9
 clear q9
 have S3 : Below w2.heap.size w2 w3:=bn bel g3
 clear g3
 replace HV:=Lib.hid (HV.out.below S3)
 replace HP:=Lib.hid (HP.out.below S3)
 have B3 : Below w.heap.size w w3:=bn B2 S3
 clear S3
 go_wp2_with fail
 refine (HC.out _ _ (hB.below bel) (V9.out.below bel)).mono ?_
 rintro e w4 ⟨rfl,g4⟩
 have S4 : Below w3.heap.size w3 w4:=bn bel g4
 clear g4
 replace HV:=Lib.hid (HV.out.below S4)
 replace HP:=Lib.hid (HP.out.below S4)
 replace V9:=Lib.hid (V9.out.below S4)
 have B4 : Below w.heap.size w w4:=bn B3 S4
 clear S4
 clear V9
 go_wp2
 obtain ⟨p0,p1,p2,p3, -⟩:=HP.out.c4
 have hpl:=HP.out.lt
 go_region_held3 (fun w'=>w'.cell? ⟨w.heap.size,0,none⟩=some (.string x1)∧w'.cell? ⟨w.heap.size,1,none⟩=some (.string x2)∧w'.cell? ⟨w.heap.size,2,none⟩=some (.string x3)∧w'.cell? ⟨w.heap.size,3,none⟩=some (.string x4)∧Below w4.heap.size w4 w')
  ((refine (fun hb=>⟨bc hb p0,bc hb p1,bc hb p2,bc hb p3,hb⟩) ?_; go_split_ands; repeat (first | with_reducible assumption | (with_reducible exact bd (br _)) | (with_reducible exact br _) | (with_reducible refine bn ?_ g) | (with_reducible refine ba ?_) | (with_reducible refine bd ?_))))
  (first
   | (go_at_call 13; refine (HCL.out _ _ _ (HV.out.below (by go_split_ands; assumption))).mono ?_; rintro e wx1 ⟨_,rfl,⟨A4,c4,rfl,q3⟩,g⟩; have X1 : Below w4.heap.size w4 wx1:=bn (by go_split_ands; assumption) g; have V3:=Lib.hid q3; clear q3)
   | (go_at_call 12; have X1x:=X1; refine (H1.out _ _ _ (hB.below (bn B4 (by go_split_ands; assumption))) (V3.out.below (by repeat (first | with_reducible exact br _ | with_reducible assumption | with_reducible refine ba ?_ | with_reducible refine bd ?_ | (refine below_drewN ?_ _))))).mono ?_; rintro e w5 ⟨rfl,g⟩; have S5 : Below w4.heap.size w4 w5:=bn (by go_split_ands; assumption) g))
 clear V3
 clear p0 p1 p2 p3 hpl
 replace HV:=Lib.hid (HV.out.below S5)
 replace HP:=Lib.hid (HP.out.below S5)
 have B5 : Below w.heap.size w w5:=bn B4 S5
 clear S5
 go_wp2
 go_ret
 exact ⟨rfl,bel⟩
set_option maxHeartbeats 4000000 in
set_option maxRecDepth 100000 in
theorem convex13_bad2 (A : Option Addr) (n cap : Nat) (l : List TV) (x1 x2 x3 x4 : ByteArray) (w : World) (hB : Bw w) (hv : Ts w (.slice A n cap) l)
  (z : Int) (c : Bool) (hz : (z != 0)=true)
  (hn16 : (n : Int)≤16)
  (hf : ∀ w,Ts w (.slice A n cap) l→Calls Tryz.prog 11 #[.slice A n cap,.agg #[.string x1,.string x2,.string x3,.string x4]] w fun e w'=>e=.returned (.bool true)∧Below w.heap.size w w')
  (hcl : ∀ A cap w,Ts w (.slice A n cap) l→Calls Tryz.prog 13 #[.slice A n cap] w (Ret fun r w'=>(∃ A c,r=.slice A n c∧Ts w' (.slice A n c) l)∧Below w.heap.size w w'))
  (hc : ∀ v w,Bw w→Ts w v l→Calls Tryz.prog 41 #[v] w fun e w'=>e=.returned (.tuple #[.bool c,.int .i64 0])∧Below w.heap.size w w')
  (h1 : ∀ A cap w,Bw w→Ts w (.slice A n cap) l→Calls Tryz.prog 12 #[.slice A n cap,.agg #[.string x1,.string x2,.string x3,.string x4]] w fun e w'=>e=.returned (.tuple #[.slice none 0 0,.int .i64 z])∧Below w.heap.size w w') :
  Calls Tryz.prog 9 #[.slice A n cap,.agg #[.string x1,.string x2,.string x3,.string x4]] w fun e w'=>e=.returned (.bool true)∧Below w.heap.size w w':=by
 have HV:=Lib.hid hv
 clear hv
 have H0:=Lib.hid (fun w hB=>awake13_walk w hB)
 have HF:=Lib.hid hf
 clear hf
 have HCL:=Lib.hid hcl
 clear hcl
 have HC:=Lib.hid hc
 clear hc
 have H1:=Lib.hid h1
 clear h1
 go_enter Tryz.func9,Tryz.ntmps9
 go_wp2_with fail
 refine (H0.out _ (hB.below bel)).mono ?_
 rintro e w1 ⟨rfl,g1⟩
 have HP:=Lib.hid (show Bk w1 w.heap.size [.string x1,.string x2,.string x3,.string x4] from Bk.below bkk g1)
 have S1:=bn (w:=w) bel g1
 replace HV:=Lib.hid (HV.out.below S1)
 have B1:=S1
 clear S1 g1
 obtain ⟨p0,p1,p2,p3, -⟩:=HP.out.c4
 have hpl:=HP.out.lt
 go_wp2_with fail
 refine (HF.out _ (HV.out.below bel)).mono ?_
 rintro e w2 ⟨rfl,g2⟩
 clear p0 p1 p2 p3 hpl
 have S2 : Below w1.heap.size w1 w2:=bn bel g2
 clear g2
 replace HV:=Lib.hid (HV.out.below S2)
 replace HP:=Lib.hid (HP.out.below S2)
 have B2 : Below w.heap.size w w2:=bn B1 S2
 clear S2
 go_wp2_with fail
 refine (HCL.out _ _ _ (HV.out.below bel)).mono ?_
 rintro e w3 ⟨_,rfl,⟨A9,c9,rfl,q9⟩,g3⟩
 have V9:=Lib.hid q9
 clear q9
 have S3 : Below w2.heap.size w2 w3:=bn bel g3
 clear g3
 replace HV:=Lib.hid (HV.out.below S3)
 replace HP:=Lib.hid (HP.out.below S3)
 have B3 : Below w.heap.size w w3:=bn B2 S3
 clear S3
 go_wp2_with fail
 refine (HC.out _ _ (hB.below bel) (V9.out.below bel)).mono ?_
 rintro e w4 ⟨rfl,g4⟩
 have S4 : Below w3.heap.size w3 w4:=bn bel g4
 clear g4
 replace HV:=Lib.hid (HV.out.below S4)
 replace HP:=Lib.hid (HP.out.below S4)
 replace V9:=Lib.hid (V9.out.below S4)
 have B4 : Below w.heap.size w w4:=bn B3 S4
 clear S4
 clear V9
 go_wp2
 obtain ⟨p0,p1,p2,p3, -⟩:=HP.out.c4
 have hpl:=HP.out.lt
 go_region_held3 (fun w'=>w'.cell? ⟨w.heap.size,0,none⟩=some (.string x1)∧w'.cell? ⟨w.heap.size,1,none⟩=some (.string x2)∧w'.cell? ⟨w.heap.size,2,none⟩=some (.string x3)∧w'.cell? ⟨w.heap.size,3,none⟩=some (.string x4)∧Below w4.heap.size w4 w')
  ((refine (fun hb=>⟨bc hb p0,bc hb p1,bc hb p2,bc hb p3,hb⟩) ?_; go_split_ands; repeat (first | with_reducible assumption | (with_reducible exact bd (br _)) | (with_reducible exact br _) | (with_reducible refine bn ?_ g) | (with_reducible refine ba ?_) | (with_reducible refine bd ?_))))
  (first
   | (go_at_call 13; refine (HCL.out _ _ _ (HV.out.below (by go_split_ands; assumption))).mono ?_; rintro e wx1 ⟨_,rfl,⟨A4,c4,rfl,q3⟩,g⟩; have X1 : Below w4.heap.size w4 wx1:=bn (by go_split_ands; assumption) g; have V3:=Lib.hid q3; clear q3)
   | (go_at_call 12; have X1x:=X1; refine (H1.out _ _ _ (hB.below (bn B4 (by go_split_ands; assumption))) (V3.out.below (by repeat (first | with_reducible exact br _ | with_reducible assumption | with_reducible refine ba ?_ | with_reducible refine bd ?_ | (refine below_drewN ?_ _))))).mono ?_; rintro e w5 ⟨rfl,g⟩; have S5 : Below w4.heap.size w4 w5:=bn (by go_split_ands; assumption) g))
 clear V3
 clear p0 p1 p2 p3 hpl
 replace HV:=Lib.hid (HV.out.below S5)
 replace HP:=Lib.hid (HP.out.below S5)
 have B5 : Below w.heap.size w w5:=bn B4 S5
 clear S5
 go_wp2
 go_ret
 exact ⟨rfl,bel⟩
set_option maxHeartbeats 4000000 in
set_option maxRecDepth 100000 in
theorem convex13_not (A : Option Addr) (n cap : Nat) (l : List TV) (x1 x2 x3 x4 : ByteArray) (w : World) (hB : Bw w) (hv : Ts w (.slice A n cap) l)
  (D : List TV)
  (hn16 : (n : Int)≤16)
  (hf : ∀ w,Ts w (.slice A n cap) l→Calls Tryz.prog 11 #[.slice A n cap,.agg #[.string x1,.string x2,.string x3,.string x4]] w fun e w'=>e=.returned (.bool true)∧Below w.heap.size w w')
  (hcl : ∀ A cap w,Ts w (.slice A n cap) l→Calls Tryz.prog 13 #[.slice A n cap] w (Ret fun r w'=>(∃ A c,r=.slice A n c∧Ts w' (.slice A n c) l)∧Below w.heap.size w w'))
  (hc : ∀ v w,Bw w→Ts w v l→Calls Tryz.prog 41 #[v] w fun e w'=>e=.returned (.tuple #[.bool false,.int .i64 0])∧Below w.heap.size w w')
  (h1 : ∀ A cap w,Bw w→Ts w (.slice A n cap) l→Calls Tryz.prog 12 #[.slice A n cap,.agg #[.string x1,.string x2,.string x3,.string x4]] w (SolR D w)) :
  Calls Tryz.prog 9 #[.slice A n cap,.agg #[.string x1,.string x2,.string x3,.string x4]] w fun e w'=>e=.returned (.bool true)∧Below w.heap.size w w':=by
 have HV:=Lib.hid hv
 clear hv
 have H0:=Lib.hid (fun w hB=>awake13_walk w hB)
 have HF:=Lib.hid hf
 clear hf
 have HCL:=Lib.hid hcl
 clear hcl
 have HC:=Lib.hid hc
 clear hc
 have H1:=Lib.hid h1
 clear h1
 go_enter Tryz.func9,Tryz.ntmps9
 go_wp2_with fail
 refine (H0.out _ (hB.below bel)).mono ?_
 rintro e w1 ⟨rfl,g1⟩
 have HP:=Lib.hid (show Bk w1 w.heap.size [.string x1,.string x2,.string x3,.string x4] from Bk.below bkk g1)
 have S1:=bn (w:=w) bel g1
 replace HV:=Lib.hid (HV.out.below S1)
 have B1:=S1
 clear S1 g1
 obtain ⟨p0,p1,p2,p3, -⟩:=HP.out.c4
 have hpl:=HP.out.lt
 go_wp2_with fail
 refine (HF.out _ (HV.out.below bel)).mono ?_
 rintro e w2 ⟨rfl,g2⟩
 clear p0 p1 p2 p3 hpl
 have S2 : Below w1.heap.size w1 w2:=bn bel g2
 clear g2
 replace HV:=Lib.hid (HV.out.below S2)
 replace HP:=Lib.hid (HP.out.below S2)
 have B2 : Below w.heap.size w w2:=bn B1 S2
 clear S2
 go_wp2_with fail
 refine (HCL.out _ _ _ (HV.out.below bel)).mono ?_
 rintro e w3 ⟨_,rfl,⟨A9,c9,rfl,q9⟩,g3⟩
 have V9:=Lib.hid q9
 clear q9
 have S3 : Below w2.heap.size w2 w3:=bn bel g3
 clear g3
 replace HV:=Lib.hid (HV.out.below S3)
 replace HP:=Lib.hid (HP.out.below S3)
 have B3 : Below w.heap.size w w3:=bn B2 S3
 clear S3
 go_wp2_with fail
 refine (HC.out _ _ (hB.below bel) (V9.out.below bel)).mono ?_
 rintro e w4 ⟨rfl,g4⟩
 have S4 : Below w3.heap.size w3 w4:=bn bel g4
 clear g4
 replace HV:=Lib.hid (HV.out.below S4)
 replace HP:=Lib.hid (HP.out.below S4)
 replace V9:=Lib.hid (V9.out.below S4)
 have B4 : Below w.heap.size w w4:=bn B3 S4
 clear S4
 clear V9
 go_wp2
 obtain ⟨p0,p1,p2,p3, -⟩:=HP.out.c4
 have hpl:=HP.out.lt
 go_region_held3 (fun w'=>w'.cell? ⟨w.heap.size,0,none⟩=some (.string x1)∧w'.cell? ⟨w.heap.size,1,none⟩=some (.string x2)∧w'.cell? ⟨w.heap.size,2,none⟩=some (.string x3)∧w'.cell? ⟨w.heap.size,3,none⟩=some (.string x4)∧Below w4.heap.size w4 w')
  ((refine (fun hb=>⟨bc hb p0,bc hb p1,bc hb p2,bc hb p3,hb⟩) ?_; go_split_ands; repeat (first | with_reducible assumption | (with_reducible exact bd (br _)) | (with_reducible exact br _) | (with_reducible refine bn ?_ g) | (with_reducible refine ba ?_) | (with_reducible refine bd ?_))))
  (first
   | (go_at_call 13; refine (HCL.out _ _ _ (HV.out.below (by go_split_ands; assumption))).mono ?_; rintro e wx1 ⟨_,rfl,⟨A4,c4,rfl,q3⟩,g⟩; have X1 : Below w4.heap.size w4 wx1:=bn (by go_split_ands; assumption) g; have V3:=Lib.hid q3; clear q3)
   | (go_at_call 12; have X1x:=X1; refine (H1.out _ _ _ (hB.below (bn B4 (by go_split_ands; assumption))) (V3.out.below (by repeat (first | with_reducible exact br _ | with_reducible assumption | with_reducible refine ba ?_ | with_reducible refine bd ?_ | (refine below_drewN ?_ _))))).mono ?_; rintro e w5 ⟨AD,cD,rfl,qD,g⟩; have S5 : Below w4.heap.size w4 w5:=bn (by go_split_ands; assumption) g))
 clear V3
 clear p0 p1 p2 p3 hpl
 replace HV:=Lib.hid (HV.out.below S5)
 replace HP:=Lib.hid (HP.out.below S5)
 have B5 : Below w.heap.size w w5:=bn B4 S5
 clear S5
 obtain ⟨nd,hnd0⟩ : ∃ x,x=D.length:=⟨_,rfl⟩
 rw [← hnd0] at qD ⊢
 have VD:=Lib.hid qD
 clear qD hnd0
 go_wp2
 go_ret
 exact ⟨rfl,bel⟩
set_option maxHeartbeats 4000000 in
set_option maxRecDepth 100000 in
theorem convex13_yes (A : Option Addr) (n cap : Nat) (l : List TV) (x1 x2 x3 x4 : ByteArray) (w : World) (hB : Bw w) (hv : Ts w (.slice A n cap) l)
  (D : List TV)
  (hn16 : (n : Int)≤16)
  (hf : ∀ w,Ts w (.slice A n cap) l→Calls Tryz.prog 11 #[.slice A n cap,.agg #[.string x1,.string x2,.string x3,.string x4]] w fun e w'=>e=.returned (.bool true)∧Below w.heap.size w w')
  (hcl : ∀ A cap w,Ts w (.slice A n cap) l→Calls Tryz.prog 13 #[.slice A n cap] w (Ret fun r w'=>(∃ A c,r=.slice A n c∧Ts w' (.slice A n c) l)∧Below w.heap.size w w'))
  (hc : ∀ v w,Bw w→Ts w v l→Calls Tryz.prog 41 #[v] w fun e w'=>e=.returned (.tuple #[.bool true,.int .i64 0])∧Below w.heap.size w w')
  (h1 : ∀ A cap w,Bw w→Ts w (.slice A n cap) l→Calls Tryz.prog 12 #[.slice A n cap,.agg #[.string x1,.string x2,.string x3,.string x4]] w (SolR D w))
  (hs : ∀ A cap w,Bw w→Ts w (.slice A n cap) l→Calls Tryz.prog 42 #[.slice A n cap] w (RetB w))
  (h2 : ∀ v w,Bw w→Ts w v D→Calls Tryz.prog 41 #[v] w fun e w'=>e=.returned (.tuple #[.bool true,.int .i64 0])∧Below w.heap.size w w') :
  Calls Tryz.prog 9 #[.slice A n cap,.agg #[.string x1,.string x2,.string x3,.string x4]] w fun e w'=>e=.returned (.bool true)∧Below w.heap.size w w':=by
 have HV:=Lib.hid hv
 clear hv
 have H0:=Lib.hid (fun w hB=>awake13_walk w hB)
 have HF:=Lib.hid hf
 clear hf
 have HCL:=Lib.hid hcl
 clear hcl
 have HC:=Lib.hid hc
 clear hc
 have H1:=Lib.hid h1
 clear h1
 have HS:=Lib.hid hs
 clear hs
 have H2:=Lib.hid h2
 clear h2
 go_enter Tryz.func9,Tryz.ntmps9
 go_wp2_with fail
 refine (H0.out _ (hB.below bel)).mono ?_
 rintro e w1 ⟨rfl,g1⟩
 have HP:=Lib.hid (show Bk w1 w.heap.size [.string x1,.string x2,.string x3,.string x4] from Bk.below bkk g1)
 have S1:=bn (w:=w) bel g1
 replace HV:=Lib.hid (HV.out.below S1)
 have B1:=S1
 clear S1 g1
 obtain ⟨p0,p1,p2,p3, -⟩:=HP.out.c4
 have hpl:=HP.out.lt
 go_wp2_with fail
 refine (HF.out _ (HV.out.below bel)).mono ?_
 rintro e w2 ⟨rfl,g2⟩
 clear p0 p1 p2 p3 hpl
 have S2 : Below w1.heap.size w1 w2:=bn bel g2
 clear g2
 replace HV:=Lib.hid (HV.out.below S2)
 replace HP:=Lib.hid (HP.out.below S2)
 have B2 : Below w.heap.size w w2:=bn B1 S2
 clear S2
 go_wp2_with fail
 refine (HCL.out _ _ _ (HV.out.below bel)).mono ?_
 rintro e w3 ⟨_,rfl,⟨A9,c9,rfl,q9⟩,g3⟩
 have V9:=Lib.hid q9
 clear q9
 have S3 : Below w2.heap.size w2 w3:=bn bel g3
 clear g3
 replace HV:=Lib.hid (HV.out.below S3)
 replace HP:=Lib.hid (HP.out.below S3)
 have B3 : Below w.heap.size w w3:=bn B2 S3
 clear S3
 go_wp2_with fail
 refine (HC.out _ _ (hB.below bel) (V9.out.below bel)).mono ?_
 rintro e w4 ⟨rfl,g4⟩
 have S4 : Below w3.heap.size w3 w4:=bn bel g4
 clear g4
 replace HV:=Lib.hid (HV.out.below S4)
 replace HP:=Lib.hid (HP.out.below S4)
 replace V9:=Lib.hid (V9.out.below S4)
 have B4 : Below w.heap.size w w4:=bn B3 S4
 clear S4
 clear V9
 go_wp2
 obtain ⟨p0,p1,p2,p3, -⟩:=HP.out.c4
 have hpl:=HP.out.lt
 go_region_held3 (fun w'=>w'.cell? ⟨w.heap.size,0,none⟩=some (.string x1)∧w'.cell? ⟨w.heap.size,1,none⟩=some (.string x2)∧w'.cell? ⟨w.heap.size,2,none⟩=some (.string x3)∧w'.cell? ⟨w.heap.size,3,none⟩=some (.string x4)∧Below w4.heap.size w4 w')
  ((refine (fun hb=>⟨bc hb p0,bc hb p1,bc hb p2,bc hb p3,hb⟩) ?_; go_split_ands; repeat (first | with_reducible assumption | (with_reducible exact bd (br _)) | (with_reducible exact br _) | (with_reducible refine bn ?_ g) | (with_reducible refine ba ?_) | (with_reducible refine bd ?_))))
  (first
   | (go_at_call 13; refine (HCL.out _ _ _ (HV.out.below (by go_split_ands; assumption))).mono ?_; rintro e wx1 ⟨_,rfl,⟨A4,c4,rfl,q3⟩,g⟩; have X1 : Below w4.heap.size w4 wx1:=bn (by go_split_ands; assumption) g; have V3:=Lib.hid q3; clear q3)
   | (go_at_call 12; have X1x:=X1; refine (H1.out _ _ _ (hB.below (bn B4 (by go_split_ands; assumption))) (V3.out.below (by repeat (first | with_reducible exact br _ | with_reducible assumption | with_reducible refine ba ?_ | with_reducible refine bd ?_ | (refine below_drewN ?_ _))))).mono ?_; rintro e w5 ⟨AD,cD,rfl,qD,g⟩; have S5 : Below w4.heap.size w4 w5:=bn (by go_split_ands; assumption) g))
 clear V3
 clear p0 p1 p2 p3 hpl
 replace HV:=Lib.hid (HV.out.below S5)
 replace HP:=Lib.hid (HP.out.below S5)
 have B5 : Below w.heap.size w w5:=bn B4 S5
 clear S5
 obtain ⟨nd,hnd0⟩ : ∃ x,x=D.length:=⟨_,rfl⟩
 rw [← hnd0] at qD ⊢
 have VD:=Lib.hid qD
 clear qD hnd0
 go_wp2_with fail
 refine (HS.out _ _ _ (hB.below bel) (HV.out.below bel)).mono ?_
 rintro e w6 ⟨bs,rfl,g6⟩
 have S6 : Below w5.heap.size w5 w6:=bn bel g6
 clear g6
 replace HV:=Lib.hid (HV.out.below S6)
 replace HP:=Lib.hid (HP.out.below S6)
 replace VD:=Lib.hid (VD.out.below S6)
 have B6 : Below w.heap.size w w6:=bn B5 S6
 clear S6
 cases bs
 ·go_wp2
  go_ret
  exact ⟨rfl,bel⟩
 ·skip
  go_wp2_with fail
  refine (H2.out _ _ (hB.below bel) (VD.out.below bel)).mono ?_
  rintro e w7 ⟨rfl,g7⟩
  have S7 : Below w6.heap.size w6 w7:=bn bel g7
  clear g7
  replace HV:=Lib.hid (HV.out.below S7)
  replace HP:=Lib.hid (HP.out.below S7)
  replace VD:=Lib.hid (VD.out.below S7)
  have B7 : Below w.heap.size w w7:=bn B6 S7
  clear S7
  go_wp2
  go_ret
  exact ⟨rfl,bel⟩
end Go.Proofs.YtopfedbhkfdjkaaGreatDoor

/- rows: planes, numbers and rows of numbers that came in, opened. -/
set_option maxRecDepth 100000
namespace Go.Proofs.YtopfedbhkfdjkaaGreatDoor
open Go Go.ChangeShapes Go.WideShapes Go.ChangeAt Go.RowKit Go.Joins Go.Deep
open Go.ChangeMaps (open_string shut_string)
section
variable {H : Type} {enc : TypeId × Value→H} {W : World} {v : Value} {d : DataW H} {p : List MemPlace}
theorem open_plane {r : Reach} {b0 : Nat} (hval : Value.okWide Tryz.prog W r b0 28 v) (h : DataW.Trod enc Tryz.prog W 0 (fun _=>true) true 28 v d p) :
  ∃ (s : SV) (c : ByteArray),v=.agg #[.string s.x,.string s.y,.string s.z,.string c]∧c.size≤maxLen:=by
 obtain ⟨cs,rfl,hsz⟩:=okWide_struct Tryz.underlying28 hval
 obtain ⟨fuel,hf⟩:=h
 obtain ⟨y0,y1,n,hx,hl,h0,h1⟩:=trod_struct2 Tryz.underlying28 hf
 have e4 : Tryz.prog.cellsOf 28=4:=by kernel_rfl
 have e1 : Tryz.prog.cellsOf 24=1:=by kernel_rfl
 rw [e4] at hsz
 obtain ⟨l⟩:=cs
 simp only [Value.cells] at h0 h1
 obtain ⟨s,hs⟩:=open_vec h0
 obtain ⟨c,hc, -,hm⟩:=DataW.trod_string Tryz.underlying24 h1
 match l,hsz with
 | [a0,a1,a2,a3],_ =>
  have q1 : [a0,a1,a2]=s.cells:=by rw [← hs,cells_vec]; rfl
  have q2 : [a3]=[Value.string c]:=by rw [← hc,e1]; rfl
  have q3 : s.cells=[.string s.x,.string s.y,.string s.z]:=rfl
  rw [q3] at q1
  simp only [List.cons.injEq,and_true] at q1 q2
  obtain ⟨rfl,rfl,rfl⟩:=q1
  subst q2
  exact ⟨s,c,rfl,hm⟩
end
end Go.Proofs.YtopfedbhkfdjkaaGreatDoor

/- laws of chapter 13: what Side answers at numbers. -/
namespace Go.Proofs.YtopfedbhkfdjkaaGreatDoor
open Go Go.RowKit
theorem side_ok {p : Pl} (h0 : p.n≠V3.zero) (hp : p.le 1000) {a : V3} (ha : a.le 1000) {q : Int→Prop} (hq : q (rsg (p.height a))) : SideOK (rtx p.n.x) (rtx p.n.y) (rtx p.n.z) (rtx p.c) q (txv a) :=
 ⟨_,hq,fun w hB=>by
  have:=vSide_walk p a h0 ⟨hp.1.mono (by omega),by have:=hp.2; omega⟩ (ha.mono (by omega)) w hB
  rw [PV_eq,VV_eq] at this
  exact this⟩
theorem tpts_len (L : List (Tr V3)) : (tpts L).length=3 * L.length:=by
 induction L with
 | nil=>rfl
 | cons t L ih =>
  show (t.pts++tpts L).length=_
  rw [List.length_append,ih,List.length_cons]
  show 3+_=_
  omega
theorem points_len (L : List (Tr V3)) : (pointsL L).length≤3 * L.length:=by
 have:=nub_length (tpts L)
 rw [tpts_len] at this
 exact this
end Go.Proofs.YtopfedbhkfdjkaaGreatDoor

/- Solids cut by planes, in plain Lean: the part below of a convex solid is convex. No program in sight. -/
namespace Go.Proofs.YtopfedbhkfdjkaaGreatDoor
def hgt (a b c q : V3) : Rat:=(thrP a b c).height q
theorem hgt_eq (a b c q : V3) : hgt a b c q=((b.sub a).cross (c.sub a)).dot (q.sub a):=by
 unfold hgt thrP thrN Pl.height V3.dot V3.sub V3.cross
 dsimp only
 grind
theorem hgt_zero {a b c : V3} (h : thrN a b c=V3.zero) (q : V3) : hgt a b c q=0:=by
 rw [hgt_eq]
 unfold thrN at h
 rw [h]
 unfold V3.dot V3.zero
 grind
theorem hgt_rot (a b c q : V3) : hgt b c a q=hgt a b c q:=by
 rw [hgt_eq,hgt_eq]
 unfold V3.dot V3.sub V3.cross
 dsimp only
 grind
theorem hgt_lin (a b c x y : V3) (k : Rat) : hgt a b c (x.add ((y.sub x).smul k))=hgt a b c x + (hgt a b c y - hgt a b c x) * k:=height_lin _ x y k
def onE (a b : V3) (s : Rat) : V3:=a.add ((b.sub a).smul s)
theorem hgt_lone (a b c q : V3) (s r : Rat) : hgt a (onE a b s) (onE a c r) q=s * r * hgt a b c q:=by
 rw [hgt_eq,hgt_eq]
 unfold onE V3.add V3.smul V3.dot V3.sub V3.cross
 dsimp only
 grind
theorem hgt_rest1 (a b c q : V3) (s : Rat) : hgt (onE a b s) b c q=(1 - s) * hgt a b c q:=by
 rw [hgt_eq,hgt_eq]
 unfold onE V3.add V3.smul V3.dot V3.sub V3.cross
 dsimp only
 grind
theorem hgt_rest2 (a b c q : V3) (s r : Rat) : hgt (onE a b s) c (onE a c r) q=s * (1 - r) * hgt a b c q:=by
 rw [hgt_eq,hgt_eq]
 unfold onE V3.add V3.smul V3.dot V3.sub V3.cross
 dsimp only
 grind
theorem hgt_on1 (a b c : V3) (s : Rat) : hgt a b c (onE a b s)=0:=by
 rw [hgt_eq]
 unfold onE V3.add V3.smul V3.dot V3.sub V3.cross
 dsimp only
 grind
theorem hgt_on2 (a b c : V3) (s : Rat) : hgt a b c (onE a c s)=0:=by
 rw [hgt_eq]
 unfold onE V3.add V3.smul V3.dot V3.sub V3.cross
 dsimp only
 grind
theorem cap_id (n N o x a q : V3) (c m : Rat) (h1 : n.dot o=c) (h2 : n.dot x=c) (h3 : N.dot (x.sub a)=0) :
  hgt o x (x.add ((n.cross N).smul m)) q = -(m * N.dot (o.sub a)) * (n.dot q - c):=by
 rw [hgt_eq]
 subst h1
 unfold V3.add V3.smul V3.dot V3.sub V3.cross at *
 dsimp only at *
 grind
theorem edge_up (n a b c : V3) (s r m : Rat) (h1 : m * n.dot (c.sub a) = -s) (h2 : m * n.dot (b.sub a) = -r) : onE a c r=(onE a b s).add ((n.cross (thrN a b c)).smul m):=by
 unfold onE thrN V3.add V3.smul V3.dot V3.sub V3.cross at *
 dsimp only at *
 simp only [V3.mk.injEq]
 refine ⟨?_, ?_, ?_⟩<;>grind
theorem edge_dn (n a b c : V3) (s r m : Rat) (h1 : m * n.dot (c.sub a)=s) (h2 : m * n.dot (b.sub a)=r) : onE a b s=(onE a c r).add ((n.cross (thrN a b c)).smul m):=by
 unfold onE thrN V3.add V3.smul V3.dot V3.sub V3.cross at *
 dsimp only at *
 simp only [V3.mk.injEq]
 refine ⟨?_, ?_, ?_⟩<;>grind
def inn (L : List (Tr V3)) (q : V3) : Prop:=∀ t ∈ L,hgt t.a t.b t.c q≤0
theorem convex_inn (L : List (Tr V3)) : convexL L=true↔∀ u ∈ L,inn L u.a∧inn L u.b∧inn L u.c:=by
 unfold convexL
 rw [List.all_eq_true]
 constructor
 ·intro h u hu
  have key : ∀ q ∈ tpts L,inn L q:=fun q hq t ht=>by
   have:=h t ht
   rw [Bool.or_eq_true] at this
   rcases this with h1 | h1
   ·rw [hgt_zero (of_decide_eq_true h1)]; exact Rat.le_refl
   ·have:=List.all_eq_true.1 h1 q ((mem_nub _ _).2 hq)
    exact of_decide_eq_true this
  exact ⟨key _ (mem_tpts_iff.2 ⟨u,hu,.inl rfl⟩),key _ (mem_tpts_iff.2 ⟨u,hu,.inr (.inl rfl)⟩),key _ (mem_tpts_iff.2 ⟨u,hu,.inr (.inr rfl)⟩)⟩
 ·intro h t ht
  rw [Bool.or_eq_true]
  right
  rw [List.all_eq_true]
  intro q hq
  obtain ⟨u,hu,hp⟩:=mem_tpts_iff.1 ((mem_nub _ _).1 hq)
  obtain ⟨h1,h2,h3⟩:=h u hu
  apply decide_eq_true
  rcases hp with rfl | rfl | rfl
  ·exact h1 t ht
  ·exact h2 t ht
  ·exact h3 t ht
theorem npos_comb {x y s : Rat} (hx : x≤0) (hy : y≤0) (h0 : 0≤s) (h1 : s≤1) : x + (y - x) * s≤0:=by
 have a:=Rat.mul_nonneg (a:=1 - s) (b := -x) (by grind) (by grind)
 have b:=Rat.mul_nonneg (a:=s) (b := -y) h0 (by grind)
 grind
theorem npos_mul {k x : Rat} (hk : 0≤k) (hx : x≤0) : k * x≤0:=by
 have a:=Rat.mul_nonneg (a:=k) (b := -x) hk (by grind)
 grind
theorem inn_onE {L : List (Tr V3)} {a b : V3} {s : Rat} (ha : inn L a) (hb : inn L b) (h0 : 0≤s) (h1 : s≤1) : inn L (onE a b s):=fun t ht=>by
 unfold onE
 rw [hgt_lin]
 exact npos_comb (ha t ht) (hb t ht) h0 h1
theorem frac01 {x d s : Rat} (hd : 0<d) (hs : s * d=x) (h0 : 0≤x) (h1 : x≤d) : 0≤s∧s≤1:=by
 constructor
 ·by_cases h : 0≤s
  ·exact h
  ·have:=Rat.mul_pos (a := -s) (b:=d) (by grind) hd
   grind
 ·by_cases h : s≤1
  ·exact h
  ·have:=Rat.mul_pos (a:=s - 1) (b:=d) (by grind) hd
   grind
theorem div_nn {x y : Rat} (hx : 0<x) (hy : 0≤y) : 0≤y / x:=by
 have e : y / x * x=y:=by grind
 by_cases h : 0≤y / x
 ·exact h
 ·generalize y / x=s at *
  have:=Rat.mul_pos (a := -s) (b:=x) (by grind) hx
  grind
theorem cross_up {p : Pl} {a b : V3} (ha : upP p a=true) (hb : upP p b=false) : ∃ s,0≤s∧s≤1∧crossV p a b=onE a b s∧p.height a + (p.height b - p.height a) * s=0:=by
 have h1:=of_decide_eq_true ha
 have h2:=of_decide_eq_false hb
 obtain ⟨k0,k1⟩:=frac01 (x:=p.height a) (d:=p.height a - p.height b) (s:=p.height a / (p.height a - p.height b)) (by grind) (by
  generalize p.height a=x at *
  generalize p.height b=y at *
  grind) (by grind) (by grind)
 refine ⟨p.height a / (p.height a - p.height b),k0,k1,rfl, ?_⟩
 ·generalize p.height a=x at *
  generalize p.height b=y at *
  grind
theorem cross_dn {p : Pl} {a b : V3} (ha : upP p a=false) (hb : upP p b=true) : ∃ s,0≤s∧s≤1∧crossV p a b=onE a b s∧p.height a + (p.height b - p.height a) * s=0:=by
 have h1:=of_decide_eq_false ha
 have h2:=of_decide_eq_true hb
 obtain ⟨k0,k1⟩:=frac01 (x := -p.height a) (d:=p.height b - p.height a) (s:=p.height a / (p.height a - p.height b)) (by grind) (by
  generalize p.height a=x at *
  generalize p.height b=y at *
  grind) (by grind) (by grind)
 refine ⟨p.height a / (p.height a - p.height b),k0,k1,rfl, ?_⟩
 ·generalize p.height a=x at *
  generalize p.height b=y at *
  grind
theorem height_sub (p : Pl) (a b : V3) : p.height b - p.height a=p.n.dot (b.sub a):=by
 unfold Pl.height V3.dot V3.sub
 dsimp only
 grind
def EdgeOK (p : Pl) (t : Tr V3) (e : V3 × V3) : Prop :=
 p.height e.1=0∧hgt t.a t.b t.c e.1=0∧∃ m,0≤m∧e.2=e.1.add ((p.n.cross (thrN t.a t.b t.c)).smul m)
theorem edge_ok_up {p : Pl} {a b c : V3} (ha : upP p a=true) (hb : upP p b=false) (hc : upP p c=false) : ∀ e ∈ edgeA p a b c true,EdgeOK p ⟨a,b,c⟩ e:=by
 obtain ⟨s,s0,s1,hs,hs2⟩:=cross_up ha hb
 obtain ⟨r,r0,r1,hr,hr2⟩:=cross_up ha hc
 have hp:=of_decide_eq_true ha
 have z1:=cross_ud ha hb
 intro e he
 unfold edgeA at he
 rw [height_sub] at hs2 hr2
 split at he
 ·simp at he
 ·simp at he
  subst he
  refine ⟨z1,by rw [hs]; exact hgt_on1 a b c s,r * s / p.height a, ?_, ?_⟩
  ·exact div_nn hp (Rat.mul_nonneg r0 s0)
  ·show crossV p a c=(crossV p a b).add _
   rw [hs,hr]
   apply edge_up
   ·generalize p.n.dot (c.sub a)=g at *
    generalize p.height a=x at *
    grind
   ·generalize p.n.dot (b.sub a)=g at *
    generalize p.height a=x at *
    grind
theorem edge_ok_dn {p : Pl} {a b c : V3} (ha : upP p a=false) (hb : upP p b=true) (hc : upP p c=true) : ∀ e ∈ edgeA p a b c false,EdgeOK p ⟨a,b,c⟩ e:=by
 obtain ⟨s,s0,s1,hs,hs2⟩:=cross_dn ha hb
 obtain ⟨r,r0,r1,hr,hr2⟩:=cross_dn ha hc
 have hp:=of_decide_eq_false ha
 have hpb:=of_decide_eq_true hb
 have hpc:=of_decide_eq_true hc
 have z1:=cross_du0 ha hc
 intro e he
 unfold edgeA at he
 have hbx:=height_sub p a b
 have hcx:=height_sub p a c
 rw [height_sub] at hs2 hr2
 split at he
 ·simp at he
 ·rename_i hne
  simp at he
  subst he
  have hx : p.height a≠0:=fun h0=>by
   have e1 : s=0:=by
    rw [h0] at hs2 hbx
    generalize p.n.dot (b.sub a)=g at *
    generalize p.height b=y at *
    grind
   have e2 : r=0:=by
    rw [h0] at hr2 hcx
    generalize p.n.dot (c.sub a)=g at *
    generalize p.height c=y at *
    grind
   rw [hs,hr,e1,e2] at hne
   apply hne
   unfold onE V3.add V3.smul
   simp only [V3.mk.injEq]
   refine ⟨?_, ?_, ?_⟩<;>grind
  refine ⟨z1,by rw [hr]; exact hgt_on2 a b c r,r * s / (-p.height a), ?_, ?_⟩
  ·exact div_nn (by grind) (Rat.mul_nonneg r0 s0)
  ·show crossV p a b=(crossV p a c).add _
   rw [hs,hr]
   apply edge_dn
   ·generalize p.n.dot (c.sub a)=g at *
    generalize p.height a=x at *
    grind
   ·generalize p.n.dot (b.sub a)=g at *
    generalize p.height a=x at *
    grind
theorem thrN_rot (a b c : V3) : thrN b c a=thrN a b c:=by
 unfold thrN V3.sub V3.cross
 simp only [V3.mk.injEq]
 refine ⟨?_, ?_, ?_⟩<;>grind
theorem EdgeOK.rot {p : Pl} {a b c : V3} {e : V3 × V3} (h : EdgeOK p ⟨b,c,a⟩ e) : EdgeOK p ⟨a,b,c⟩ e:=by
 obtain ⟨h1,h2,m,h3,h4⟩:=h
 refine ⟨h1, ?_,m,h3, ?_⟩
 ·rw [← hgt_rot]; exact h2
 ·rw [← thrN_rot a b c]; exact h4
theorem tri_edges (p : Pl) (t : Tr V3) : ∀ e ∈ seT p t,EdgeOK p t e:=by
 obtain ⟨a,b,c⟩:=t
 unfold seT
 dsimp only
 intro e he
 cases ha : upP p a<;>cases hb : upP p b<;>cases hc : upP p c<;>rw [ha,hb,hc] at he<;>dsimp only at he
 ·simp at he
 ·exact (edge_ok_up hc ha hb e he).rot.rot
 ·exact (edge_ok_up hb hc ha e he).rot
 ·exact edge_ok_dn ha hb hc e he
 ·exact edge_ok_up ha hb hc e he
 ·exact (edge_ok_dn hb hc ha e he).rot
 ·exact (edge_ok_dn hc ha hb e he).rot.rot
 ·simp at he
def PieceOK (L : List (Tr V3)) (t u : Tr V3) : Prop:=(inn L u.a∧inn L u.b∧inn L u.c)∧∃ k,0≤k∧∀ q,hgt u.a u.b u.c q=k * hgt t.a t.b t.c q
theorem PieceOK.rot {L : List (Tr V3)} {a b c : V3} {u : Tr V3} (h : PieceOK L ⟨b,c,a⟩ u) : PieceOK L ⟨a,b,c⟩ u:=by
 obtain ⟨h1,k,h2,h3⟩:=h
 exact ⟨h1,k,h2,fun q=>by rw [h3 q]; show k * hgt b c a q=k * hgt a b c q; rw [hgt_rot]⟩
theorem rest_ok {L : List (Tr V3)} {p : Pl} {a b c : V3} {s r : Rat} (hs : crossV p a b=onE a b s) (hr : crossV p a c=onE a c r) (s0 : 0≤s) (s1 : s≤1) (r0 : 0≤r) (r1 : r≤1) (ha : inn L a) (hb : inn L b) (hc : inn L c) :
  ∀ u ∈ rest p a b c,PieceOK L ⟨a,b,c⟩ u:=by
 intro u hu
 unfold rest at hu
 rw [hs,hr] at hu
 simp at hu
 rcases hu with rfl | rfl
 ·exact ⟨⟨inn_onE ha hb s0 s1,hb,hc⟩,1 - s,by grind,fun q=>hgt_rest1 a b c q s⟩
 ·exact ⟨⟨inn_onE ha hb s0 s1,hc,inn_onE ha hc r0 r1⟩,s * (1 - r),Rat.mul_nonneg s0 (by grind),fun q=>hgt_rest2 a b c q s r⟩
theorem lone_ok {L : List (Tr V3)} {p : Pl} {a b c : V3} {s r : Rat} (hs : crossV p a b=onE a b s) (hr : crossV p a c=onE a c r) (s0 : 0≤s) (s1 : s≤1) (r0 : 0≤r) (r1 : r≤1) (ha : inn L a) (hb : inn L b) (hc : inn L c) :
  ∀ u ∈ [lone p a b c],PieceOK L ⟨a,b,c⟩ u:=by
 intro u hu
 unfold lone at hu
 rw [hs,hr] at hu
 simp at hu
 subst hu
 exact ⟨⟨ha,inn_onE ha hb s0 s1,inn_onE ha hc r0 r1⟩,s * r,Rat.mul_nonneg s0 r0,fun q=>hgt_lone a b c q s r⟩
theorem tri_pieces {L : List (Tr V3)} (p : Pl) (t : Tr V3) (h : inn L t.a∧inn L t.b∧inn L t.c) : ∀ u ∈ dnT p t,PieceOK L t u:=by
 obtain ⟨a,b,c⟩:=t
 obtain ⟨ia,ib,ic⟩:=h
 dsimp only at ia ib ic
 have up : ∀ a b c,inn L a→inn L b→inn L c→upP p a=true→upP p b=false→upP p c=false→∀ u ∈ rest p a b c,PieceOK L ⟨a,b,c⟩ u:=fun a b c ia ib ic ha hb hc=>by
  obtain ⟨s,s0,s1,hs, -⟩:=cross_up ha hb
  obtain ⟨r,r0,r1,hr, -⟩:=cross_up ha hc
  exact rest_ok hs hr s0 s1 r0 r1 ia ib ic
 have dn : ∀ a b c,inn L a→inn L b→inn L c→upP p a=false→upP p b=true→upP p c=true→∀ u ∈ [lone p a b c],PieceOK L ⟨a,b,c⟩ u:=fun a b c ia ib ic ha hb hc=>by
  obtain ⟨s,s0,s1,hs, -⟩:=cross_dn ha hb
  obtain ⟨r,r0,r1,hr, -⟩:=cross_dn ha hc
  exact lone_ok hs hr s0 s1 r0 r1 ia ib ic
 intro u hu
 unfold dnT at hu
 dsimp only at hu
 cases ha : upP p a<;>cases hb : upP p b<;>cases hc : upP p c<;>rw [ha,hb,hc] at hu<;>dsimp only at hu
 ·simp at hu
  subst hu
  exact ⟨⟨ia,ib,ic⟩,1,by decide,fun q=>by rw [Rat.one_mul]⟩
 ·exact (up c a b ic ia ib hc ha hb u hu).rot.rot
 ·exact (up b c a ib ic ia hb hc ha u hu).rot
 ·exact dn a b c ia ib ic ha hb hc u hu
 ·exact up a b c ia ib ic ha hb hc u hu
 ·exact (dn b c a ib ic ia hb hc ha u hu).rot
 ·exact (dn c a b ic ia ib hc ha hb u hu).rot.rot
 ·simp at hu
theorem se_inn {L : List (Tr V3)} (p : Pl) (t : Tr V3) (h : inn L t.a∧inn L t.b∧inn L t.c) : ∀ e ∈ seT p t,inn L e.1∧inn L e.2:=by
 have ed : ∀ a b c f,inn L (crossV p a b)→inn L (crossV p a c)→∀ e ∈ edgeA p a b c f,inn L e.1∧inn L e.2:=by
  intro a b c f h1 h2 e he
  unfold edgeA at he
  split at he
  ·simp at he
  ·split at he
   ·simp at he; rw [he]; exact ⟨h1,h2⟩
   ·simp at he; rw [he]; exact ⟨h2,h1⟩
 have xu : ∀ {a b},inn L a→inn L b→upP p a=true→upP p b=false→inn L (crossV p a b):=fun ia ib ha hb=>by
  obtain ⟨s,s0,s1,hs, -⟩:=cross_up ha hb
  rw [hs]; exact inn_onE ia ib s0 s1
 have xd : ∀ {a b},inn L a→inn L b→upP p a=false→upP p b=true→inn L (crossV p a b):=fun ia ib ha hb=>by
  obtain ⟨s,s0,s1,hs, -⟩:=cross_dn ha hb
  rw [hs]; exact inn_onE ia ib s0 s1
 obtain ⟨a,b,c⟩:=t
 obtain ⟨ia,ib,ic⟩:=h
 dsimp only at ia ib ic
 intro e he
 unfold seT at he
 dsimp only at he
 cases ha : upP p a<;>cases hb : upP p b<;>cases hc : upP p c<;>rw [ha,hb,hc] at he<;>dsimp only at he
 ·simp at he
 ·exact ed c a b true (xu ic ia hc ha) (xu ic ib hc hb) e he
 ·exact ed b c a true (xu ib ic hb hc) (xu ib ia hb ha) e he
 ·exact ed a b c false (xd ia ib ha hb) (xd ia ic ha hc) e he
 ·exact ed a b c true (xu ia ib ha hb) (xu ia ic ha hc) e he
 ·exact ed b c a false (xd ib ic hb hc) (xd ib ia hb ha) e he
 ·exact ed c a b false (xd ic ia hc ha) (xd ic ib hc hb) e he
 ·simp at he
theorem under_convex {L : List (Tr V3)} (h : convexL L=true) (p : Pl) : convexL (underL p L)=true:=by
 have hi:=(convex_inn L).1 h
 have hse : ∀ e ∈ seL p L,(inn L e.1∧inn L e.2)∧∃ t ∈ L,EdgeOK p t e:=fun e he=>by
  obtain ⟨t,ht,h1⟩:=List.mem_flatMap.1 he
  exact ⟨se_inn p t (hi t ht) e h1,t,ht,tri_edges p t e h1⟩
 have hlow:=(cut_sides p L).1
 -- each triangle of the part: its points lie within,and it keeps below what lies within and below
 have key : ∀ u ∈ underL p L,(inn L u.a∧inn L u.b∧inn L u.c)∧∀ q,inn L q→p.height q≤0→hgt u.a u.b u.c q≤0:=by
  intro u hu
  rcases List.mem_append.1 (show u ∈ dnL p L++capL (seL p L) false from hu) with h1 | h1
  ·obtain ⟨t,ht,h1⟩:=List.mem_flatMap.1 h1
   obtain ⟨h2,k,h3,h4⟩:=tri_pieces p t (hi t ht) u h1
   exact ⟨h2,fun q hq _=>by rw [h4 q]; exact npos_mul h3 (hq t ht)⟩
  ·generalize hS : seL p L=S at *
   cases S with
   | nil=>simp [capL] at h1
   | cons x S =>
    obtain ⟨⟨io, -⟩,t0,ht0,ho, -, -⟩:=hse x (by simp)
    obtain ⟨y,hy,h1⟩:=List.mem_flatMap.1 (show u ∈ (x :: S).flatMap (capX x.1 false) from h1)
    obtain ⟨⟨i1,i2⟩,t,ht,e1,e2,m,hm,e3⟩:=hse y hy
    unfold capX at h1
    split at h1
    ·simp at h1
    ·simp at h1
     subst h1
     refine ⟨⟨io,i1,i2⟩,fun q _ hq=>?_⟩
     show hgt x.1 y.1 y.2 q≤0
     have hN : ∀ z,hgt t.a t.b t.c z=(thrN t.a t.b t.c).dot (z.sub t.a):=fun z=>hgt_eq _ _ _ z
     have a1 : p.n.dot x.1=p.c:=by have:=ho; unfold Pl.height at this; grind
     have a2 : p.n.dot y.1=p.c:=by have:=e1; unfold Pl.height at this; grind
     rw [e3,cap_id p.n (thrN t.a t.b t.c) x.1 y.1 t.a q p.c m a1 a2 (by rw [← hN]; exact e2),← hN]
     have b1:=npos_mul hm (io t ht)
     exact npos_mul (by grind) hq
 rw [convex_inn]
 intro u hu
 have hin : ∀ q,inn L q→p.height q≤0→inn (underL p L) q:=fun q hq h0 v hv=>(key v hv).2 q hq h0
 obtain ⟨h1,h2,h3⟩:=(key u hu).1
 obtain ⟨l1,l2,l3⟩:=hlow u hu
 exact ⟨hin _ h1 l1,hin _ h2 l2,hin _ h3 l3⟩
end Go.Proofs.YtopfedbhkfdjkaaGreatDoor
