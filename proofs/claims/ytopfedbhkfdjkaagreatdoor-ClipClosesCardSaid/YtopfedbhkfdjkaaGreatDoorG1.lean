/- lemmas. -/
import Derived.Test.YtopfedbhkfdjkaaGreatDoorEB
import Derived.Test.YtopfedbhkfdjkaaGreatDoorE9
import Derived.Test.YtopfedbhkfdjkaaGreatDoorF3
import Derived.Test.YtopfedbhkfdjkaaGreatDoorED
set_option linter.unusedVariables false
set_option linter.unusedSimpArgs false
namespace Go.Proofs.YtopfedbhkfdjkaaGreatDoor
open Go Go.RowKit
open Go.ChangeMaps (setBlock)
theorem equal_vec (a b c d e f : ByteArray) (w : World) : (Op.equal 26 (.agg #[.string a,.string b,.string c]) (.agg #[.string d,.string e,.string f])).run Tryz.prog w=.ok (a.toList == d.toList && (b.toList == e.toList && c.toList == f.toList)) w:=by
 unfold Op.equal Op.maxDepth
 go_simp
 by_cases h1 : a.toList=d.toList<;>by_cases h2 : b.toList=e.toList<;>by_cases h3 : c.toList=f.toList<;>simp [h1,h2,h3]
theorem chk_vec (e : Bool) (a b c : ByteArray) (w : World) : (Instr.checkKey e 10000 26 (.agg #[.string a,.string b,.string c])).run Tryz.prog w=.ok () w:=by kernel_rfl
theorem kl_vec : KL Tryz.prog 26 SV.val where
 chk:=fun e x w=>chk_vec e x.x x.y x.z w
 eq:=fun x y w=>by
  have:=equal_vec x.x x.y x.z y.x y.y y.z w
  rw [sv_eq] at this
  exact this
 und:=⟨_,Tryz.underlying26,fun _ _=>rfl⟩
 bits:=fun x=>by unfold SV.val; simp [Instr.sameBits,bytes_same]
end Go.Proofs.YtopfedbhkfdjkaaGreatDoor

/- clip: Between and Slices on numbers; law of chapter 13: awake is true. -/
namespace Go.Proofs.YtopfedbhkfdjkaaGreatDoor
open Go Go.RowKit
theorem leT_mono {L : List (Tr V3)} {k m : Nat} (h : leT L k) (hm : k≤m) : leT L m:=fun t ht=>⟨(h t ht).1.mono hm,(h t ht).2.1.mono hm,(h t ht).2.2.mono hm⟩
theorem under_ck {p : Pl} {L : List (Tr V3)} (hk : chkC (L.map txt)=0) (hS : (underL p L).length≤512) : chkC ((underL p L).map txt)=0 :=
 chk_ok hS (under_closed (by rw [← open_txt]; exact (chkC_zero hk).2.2) p)
theorem over_ck {p : Pl} {L : List (Tr V3)} (hk : chkC (L.map txt)=0) (hS : (overL p L).length≤512) : chkC ((overL p L).map txt)=0 :=
 chk_ok hS (over_closed (by rw [← open_txt]; exact (chkC_zero hk).2.2) p)
theorem cBetween_ok {n : V3} {a b : Rat} {L : List (Tr V3)} (h0 : n≠V3.zero) (hn : n.le 500) (ha : rz a≤500) (hb : rz b≤500) (hL : leT L 500) (hk : chkC (L.map txt)=0) (hl : L.length≤50) (hab : a<b) (v : Value) (w : World) (hB : Bw w) (hv : Ts w v (L.map txt)) :
  Calls Tryz.prog 23 #[v,VV n,.string (rtx a),.string (rtx b)] w (SolR ((overL ⟨n,a⟩ (underL ⟨n,b⟩ L)).map txt) w):=by
 obtain ⟨A,cap,rfl, -, -, -⟩:=hv.open
 have hll:=(parts_len ⟨n,b⟩ L).1
 have hll2:=(parts_len ⟨n,a⟩ (underL ⟨n,b⟩ L)).2
 have hL1 : leT L 100000:=leT_mono hL (by omega)
 have hp : ∀ c,rz c≤500→(⟨n,c⟩ : Pl).le 100000:=fun c hc=>⟨hn.mono (by omega),by show rz c≤_; omega⟩
 have hL2 : leT (underL ⟨n,b⟩ L) 100000:=(parts_le (k:=500) (m:=500) (p:=⟨n,b⟩) ⟨hn,hb⟩ hL (by omega)).2.2.2.1
 have hk2:=under_ck (p:=⟨n,b⟩) hk (by omega)
 have hc : rcmp a b = -1:=by unfold rcmp; rw [if_pos hab]
 rw [VV_eq]
 refine cBetween_at A _ cap (L.map txt) _ _ _ _ _ w hB hv ((underL ⟨n,b⟩ L).map txt) _ (fun w hB hv=>ck_ok h0 (hp a ha) hL1 hk _ w hB hv) (fun w hB hv=>ck_ok h0 (hp b hb) hL1 hk _ w hB hv) ?_ ?_ ?_
 ·intro w hB
  have:=rCompare_walk a b (by omega) (by omega) w hB
  rw [hc] at this
  exact this
 ·intro w hB hv
  exact cBelow_ok h0 (hp b hb) hL1 hk _ w hB hv (by omega)
 ·intro v w hB hv
  exact cAbove_ok h0 (hp a ha) hL2 hk2 _ w hB hv (by omega)
theorem cplane_ok {p : Pl} (h0 : p.n≠V3.zero) (hp : p.le 100000) (w : World) (hB : Bw w) :
  Calls Tryz.prog 60 #[.agg #[.string (rtx p.n.x),.string (rtx p.n.y),.string (rtx p.n.z),.string (rtx p.c)]] w fun e w'=>e=.returned (.int .i64 0)∧Below w.heap.size w w':=by
 have hn:=txv_le hp.1
 have hc:=rtx_size p.c
 have hc2:=hp.2
 have:=cplane_walk (txv p.n) (rtx p.c) ⟨by have:=hn.1; omega,by have:=hn.2.1; omega,by have:=hn.2.2; omega⟩ (by omega) w hB
 rw [plS_txt h0] at this
 exact this
noncomputable def rOf (c : ByteArray) : Rat:=Classical.epsilon fun q=>rtx q=c
theorem rOf_rtx (q : Rat) : rOf (rtx q)=q:=rtx_inj (Classical.epsilon_spec (p:=fun x=>rtx x=rtx q) ⟨q,rfl⟩)
theorem cSlices_ok {n : V3} {L : List (Tr V3)} (h0 : n≠V3.zero) (hn : n.le 100000) (hL : leT L 100000) (hk : chkC (L.map txt)=0) (cs : List Rat) (hc : ∀ c ∈ cs,rz c≤100000) (hm : cs.length≤32) (v u : Value) (w : World) (hB : Bw w) (hv : Ts w v (L.map txt)) (hu : Rs w u (cs.map rtx)) :
  Calls Tryz.prog 25 #[v,VV n,u] w (SlR (cs.map fun c=>(seL ⟨n,c⟩ L).map txe) w):=by
 obtain ⟨A,cap,rfl, -, -, -⟩:=hv.open
 obtain ⟨_,A2,cap2,rfl,hq2,hq3,hq4⟩:=hu
 have hu : Rs w (.slice A2 (cs.map rtx).length cap2) (cs.map rtx):=⟨‹_›,A2,cap2,rfl,hq2,hq3,hq4⟩
 have hl:=(chkC_zero hk).1
 have hz : rtx 0=⟨#[48]⟩:=rtx_zero
 have hmem : ∀ c ∈ (⟨#[48]⟩ :: cs.map rtx : List ByteArray),∃ q,c=rtx q∧rz q≤100000:=by
  intro c hcm
  rcases List.mem_cons.1 hcm with rfl | hcm
  ·exact ⟨0,hz.symm,by rw [rz_zero]; omega⟩
  ·obtain ⟨q,hq,rfl⟩:=List.mem_map.1 hcm
   exact ⟨q,rfl,hc q hq⟩
 have e : (cs.map fun c=>(seL ⟨n,c⟩ L).map txe)=(cs.map rtx).map fun c=>(seL ⟨n,rOf c⟩ L).map txe:=by
  rw [List.map_map]
  refine List.map_congr_left fun c _=>?_
  show _=(seL ⟨n,rOf (rtx c)⟩ L).map txe
  rw [rOf_rtx]
 rw [e,VV_eq]
 refine cSlices_at A A2 _ cap _ cap2 (L.map txt) (cs.map rtx) _ _ _ w hB hv hu (by rw [List.length_map]; exact hm) (fun w hB hv=>?_) (fun c hcm w hB=>?_) (fun c=>(dnL ⟨n,rOf c⟩ L).map txt) (fun c=>(upL ⟨n,rOf c⟩ L).map txt) _ (fun c hcm w hB hv=>?_)
 ·have:=check_walk _ (L.map txt) w hB hv (tle_txt hL (by omega))
  rw [hk] at this
  exact this
 ·obtain ⟨q,rfl,hq⟩:=hmem c hcm
  exact cplane_ok (p:=⟨n,q⟩) h0 ⟨hn,hq⟩ w hB
 ·obtain ⟨q,hq,rfl⟩:=List.mem_map.1 hcm
  rw [rOf_rtx]
  rw [List.length_map] at hv ⊢
  exact (csplit_walk L ⟨n,q⟩ h0 ⟨hn,hc q hq⟩ hL (by rw [List.length_map] at hl; omega) A cap w hB hv).mono fun _ _ h=>h.texts
/-! ### The example of the chapter -/
def nz : V3:=⟨0,0,1⟩
def nx : V3:=⟨1,0,0⟩
def pz1 : Pl:=⟨nz,1 / 2⟩
def pz2 : Pl:=⟨nz,1⟩
theorem rtx_half : rtx (1 / 2)=⟨#[49,47,50]⟩:=by decide +kernel
theorem nz_ne : nz≠V3.zero:=by unfold nz V3.zero; decide
theorem nx_ne : nx≠V3.zero:=by unfold nx V3.zero; decide
theorem nz_le : nz.le 1:=by unfold V3.le; decide +kernel
theorem nx_le : nx.le 1:=by unfold V3.le; decide +kernel
theorem half_le : rz (1 / 2)≤1:=by decide +kernel
theorem one_le : rz 1≤1:=by decide +kernel
theorem len_under : (underL pz1 box0).length=20:=by decide +kernel
theorem len_over : (overL pz1 box0).length=20:=by decide +kernel
theorem len_sec : (seL pz1 box0).length=8:=by decide +kernel
theorem len_mid : 0<(overL ⟨nx,1 / 2⟩ (underL ⟨nx,1⟩ box0)).length:=by decide +kernel
theorem len_slc : (seL ⟨nx,1⟩ box0).length=8:=by decide +kernel
theorem top_low : allP (fun q=>pz2.height q≤0) box0:=by unfold allP; decide +kernel
theorem PV_pz1 : PV pz1=.agg #[.string ⟨#[48]⟩,.string ⟨#[48]⟩,.string ⟨#[49]⟩,.string ⟨#[49,47,50]⟩]:=by
 rw [PV_eq]; simp only [pz1,nz,rtx_zero,rtx_one,rtx_half]
theorem PV_pz2 : PV pz2=.agg #[.string ⟨#[48]⟩,.string ⟨#[48]⟩,.string ⟨#[49]⟩,.string ⟨#[49]⟩]:=by
 rw [PV_eq]; simp only [pz2,nz,rtx_zero,rtx_one]
theorem VV_nx : VV nx=.agg #[.string ⟨#[49]⟩,.string ⟨#[48]⟩,.string ⟨#[48]⟩]:=by
 rw [VV_eq]; simp only [nx,rtx_zero,rtx_one]
theorem awake13_walk (w : World) (hB : Bw w) :
  Calls Tryz.prog 10 #[] w fun e w'=>e=.returned (.bool true)∧Below w.heap.size w w':=by
 have hb : chkC (box0.map txt)=0:=chk_ok (by rw [box0_len]; omega) box0_closed
 have hL : leT box0 1:=box0_le
 have hL1 : leT box0 100000:=leT_mono hL (by omega)
 have h1 : pz1.n≠V3.zero:=nz_ne
 have h2 : pz2.n≠V3.zero:=nz_ne
 have hp1 : pz1.le 1:=⟨nz_le,half_le⟩
 have hp2 : pz2.le 1:=⟨nz_le,one_le⟩
 have hq1 : pz1.le 100000:=⟨hp1.1.mono (by omega),Nat.le_trans hp1.2 (by omega)⟩
 have hq2 : pz2.le 100000:=⟨hp2.1.mono (by omega),Nat.le_trans hp2.2 (by omega)⟩
 have hpl:=parts_le (p:=pz1) (n:=100000) hp1 hL (by omega)
 have hck : ∀ L,leT L 100000→chkC (L.map txt)=0→∀ v w,Bw w→Ts w v (L.map txt)→Calls Tryz.prog 29 #[v] w fun e w'=>e=.returned (.int .i64 0)∧Below w.heap.size w w':=by
  intro L hl hk v w hB hv
  have:=check_walk v (L.map txt) w hB hv (tle_txt hl (by omega))
  rw [hk] at this
  exact this
 refine awake13_at (box0.map txt) ((underL pz1 box0).map txt) ((overL pz1 box0).map txt) ((overL ⟨nx,1 / 2⟩ (underL ⟨nx,1⟩ box0)).map txt) ((seL pz1 box0).map txe) ((seL ⟨nx,1⟩ box0).map txe) w hB (by rw [List.length_map,box0_len]) (by rw [List.length_map,len_under]; omega) (by rw [List.length_map,len_over]; omega) ?_ (by rw [List.length_map,len_sec]) (by rw [List.length_map,len_slc]) ?_ ?_ ?_ ?_ ?_ ?_ ?_ ?_ ?_ ?_ ?_
 rotate_left
 ·intro w hB
  have:=mbox_ok lo0 hi0 lo0_le hi0_le lo0_lt w hB
  rw [VV_lo0,VV_hi0] at this
  exact this
 ·intro v w hB hv
  have:=cBelow_ok h1 hq1 hL1 hb v w hB hv (by rw [len_under]; omega)
  rwa [PV_pz1] at this
 ·intro v w hB hv
  have:=cAbove_ok h1 hq1 hL1 hb v w hB hv (by rw [len_over]; omega)
  rwa [PV_pz1] at this
 ·intro v w hB hv
  have:=cSection_ok h1 hq1 hL1 hb v w hB hv
  rwa [PV_pz1] at this
 ·intro v w hB hv
  have e:=(parts_low top_low).1
  have:=cBelow_ok h2 hq2 hL1 hb v w hB hv (by rw [e,box0_len]; omega)
  rwa [PV_pz2,e] at this
 ·intro v w hB hv
  have e:=(cut_low top_low).2.2
  have:=cSection_ok h2 hq2 hL1 hb v w hB hv
  rwa [PV_pz2,e] at this
 ·intro v w hB hv
  have:=cBetween_ok (a:=1 / 2) (b:=1) nx_ne (nx_le.mono (by omega)) (Nat.le_trans half_le (by omega)) (Nat.le_trans one_le (by omega)) (leT_mono hL (by omega)) hb (by rw [box0_len]; omega) (by decide +kernel) v w hB hv
  rw [VV_nx,rtx_half,rtx_one] at this
  exact this
 ·intro v u w hB hv hu
  have:=cSlices_ok (n:=nx) nx_ne (nx_le.mono (by omega)) hL1 hb [1] (fun c hc=>by simp at hc; subst hc; exact Nat.le_trans one_le (by omega)) (by simp) v u w hB hv (by simpa [rtx_one] using hu)
  rw [VV_nx] at this
  exact this
 ·exact hck _ hpl.2.2.2.1 (under_ck hb (by rw [len_under]; omega))
 ·exact hck _ hpl.2.2.2.2 (over_ck hb (by rw [len_over]; omega))
 ·intro v1 v2 w h1 h2
  exact refSame_walk v1 v2 _ w h1 h2
 ·rw [List.length_map]; exact len_mid
end Go.Proofs.YtopfedbhkfdjkaaGreatDoor

/- law of chapter 13: ClipSides: the walk. -/
namespace Go.Proofs.YtopfedbhkfdjkaaGreatDoor
open Go Go.RowKit
theorem ss_nth {w : World} {A : Option Addr} {n cap k : Nat} {l : List (SV × SV)} {t : SV × SV} (h : Ss w (.slice A n cap) l) (hg : l[k]?=some t) :
  ∃ b off,A=some ⟨b,off,none⟩∧w.cell? ⟨b,off+k * 6,none⟩=some (.string t.1.x)∧w.cell? ⟨b,off+k * 6+1,none⟩=some (.string t.1.y)∧w.cell? ⟨b,off+k * 6+2,none⟩=some (.string t.1.z) ∧
  w.cell? ⟨b,off+k * 6+3,none⟩=some (.string t.2.x)∧w.cell? ⟨b,off+k * 6+4,none⟩=some (.string t.2.y)∧w.cell? ⟨b,off+k * 6+5,none⟩=some (.string t.2.z):=by
 obtain ⟨A',cap',hv,_,_,hcell⟩:=h.open
 cases hv
 obtain ⟨b,off,hA,hcl⟩:=hcell (by have:=(List.getElem?_eq_some_iff.1 hg).1; omega)
 exact ⟨b,off,hA,hcl k t hg⟩
end Go.Proofs.YtopfedbhkfdjkaaGreatDoor

/- law of chapter 13: ClipCloses: the walk. -/
namespace Go.Proofs.YtopfedbhkfdjkaaGreatDoor
open Go Go.RowKit
open Go.ChangeMaps (setBlock)
/-! ### How many edges begin at a point, less how many end there -/
def bal : List (SV × SV)→SV→Int
 | [],_=>0
 | e :: l,x=>(if x=e.1 then 1 else 0) - (if x=e.2 then 1 else 0)+bal l x
theorem bal_append : ∀ (a b : List (SV × SV)) (x : SV),bal (a++b) x=bal a x+bal b x
 | [],b,x=>by simp [bal]
 | e :: a,b,x=>by rw [List.cons_append,bal,bal,bal_append a b x]; omega
theorem bal_le (l : List (SV × SV)) (x : SV) : bal l x≤l.length∧- (l.length : Int)≤bal l x:=by
 induction l with
 | nil=>exact ⟨Int.le_refl _,Int.le_refl _⟩
 | cons e l ih =>
  rw [bal,List.length_cons]
  split<;>split<;>omega
def vput (m : List (SV × Int)) (x : SV) (d : Int) : List (SV × Int):=kset m x ((kget m x).getD 0+d)
structure EI (m : List (SV × Int)) (es : List (SV × SV)) : Prop where
 nodup : (m.map (·.1)).Nodup
 val : ∀ x,(kget m x).getD 0=bal es x
theorem EI.nil : EI [] []:=⟨by simp,fun x=>rfl⟩
theorem vk_nodup {l : List (SV × Int)} {x : SV} {v : Int} (h : (l.map (·.1)).Nodup) : ((kset l x v).map (·.1)).Nodup:=by
 have key : ∀ (l : List (SV × Int)) (y : SV),y ∈ (kset l x v).map (·.1)→y=x∨y ∈ l.map (·.1):=by
  intro l y hy
  obtain ⟨p,hp,rfl⟩:=List.mem_map.1 hy
  rcases mem_kset hp with rfl | h
  ·exact .inl rfl
  ·exact .inr (List.mem_map_of_mem h)
 induction l with
 | nil=>simp [kset]
 | cons p l ih =>
  rw [List.map_cons,List.nodup_cons] at h
  rw [kset]
  by_cases e : x=p.1
  ·rw [if_pos e,List.map_cons,List.nodup_cons]
   exact ⟨by rw [show ((x,v) : SV × Int).1=p.1 from e]; exact h.1,h.2⟩
  ·rw [if_neg e,List.map_cons,List.nodup_cons]
   refine ⟨fun hm=>?_,ih h.2⟩
   rcases key l _ hm with h1 | h1
   ·exact e h1.symm
   ·exact h.1 h1
theorem EI.put {m : List (SV × Int)} {es : List (SV × SV)} (h : EI m es) (e : SV × SV) : EI (vput (vput m e.1 1) e.2 (-1)) (es++[e]):=by
 refine ⟨vk_nodup (vk_nodup h.nodup),fun x=>?_⟩
 unfold vput
 rw [kget_kset,kget_kset,kget_kset,bal_append]
 have h1:=h.val x
 have h2:=h.val e.1
 have h3:=h.val e.2
 simp only [bal]
 by_cases a : x=e.2
 ·rw [if_pos a]
  subst a
  by_cases b : e.2=e.1
  ·rw [if_pos b,if_pos b]
   simp only [Option.getD_some]
   rw [← b,h3]
   simp
   omega
  ·rw [if_neg b,if_neg b]
   simp only [Option.getD_some]
   rw [h3]
   simp
   (try omega)
 ·rw [if_neg a]
  by_cases b : x=e.1
  ·rw [if_pos b]
   simp only [Option.getD_some]
   rw [h2,b,if_pos rfl,if_neg (fun h=>a (b.trans h))]
   omega
  ·rw [if_neg b,h1,if_neg b,if_neg a]
   omega
theorem EI.le {m : List (SV × Int)} {es : List (SV × SV)} (h : EI m es) (x : SV) : (kget m x).getD 0≤es.length∧- (es.length : Int)≤(kget m x).getD 0:=by
 rw [h.val]
 exact bal_le es x
theorem EI.le1 {m : List (SV × Int)} {es : List (SV × SV)} (h : EI m es) (e x : SV) : (kget (vput m e 1) x).getD 0≤es.length+1∧- (es.length : Int)≤(kget (vput m e 1) x).getD 0:=by
 unfold vput
 rw [kget_kset]
 split
 ·have:=h.le e
  simp only [Option.getD_some]
  omega
 ·have:=h.le x
  omega
theorem vk_mem {l : List (SV × Int)} {p : SV × Int} (h : (l.map (·.1)).Nodup) (hp : p ∈ l) : kget l p.1=some p.2:=by
 unfold kget
 induction l with
 | nil=>cases hp
 | cons q l ih =>
  rw [List.map_cons,List.nodup_cons] at h
  rcases List.mem_cons.1 hp with rfl | hp
  ·simp
  ·have hne : p.1≠q.1:=fun e=>h.1 (by rw [← e]; exact List.mem_map_of_mem hp)
   rw [List.find?_cons_of_neg (by simpa using hne)]
   exact ih h.2 hp
theorem EI.zero {m : List (SV × Int)} {es : List (SV × SV)} (h : EI m es) (h0 : ∀ x,bal es x=0) {p : SV × Int} (hp : p ∈ m) : p.2=0:=by
 have:=h.val p.1
 rw [vk_mem h.nodup hp,h0] at this
 exact this
theorem bal_take {l : List (SV × SV)} {k : Nat} {e : SV × SV} (h : l[k]?=some e) : l.take (k+1)=l.take k++[e]:=by rw [List.take_add_one,h]; rfl
theorem bal_even {s : List (V3 × V3)} (h : Even s) (x : SV) : bal (s.map txe) x=0:=by
 have h1:=h (fun a=>if x=txv a then 1 else 0)
 have key : ∀ l : List (V3 × V3),bal (l.map txe) x = - We (fun a b=>(if x=txv b then (1 : Int) else 0) - (if x=txv a then 1 else 0)) l:=by
  intro l
  induction l with
  | nil=>rfl
  | cons e l ih =>
   rw [List.map_cons,bal,ih,We,txe]
   dsimp only
   omega
 rw [key,h1]
 rfl
theorem ev_rules (W0 : World) (mb : Nat) (m : List (SV × Int)) (e : SV) (d : Int) (hm : W0.heap[mb]?=some (Mo SV.val iv m)) : ∃ (M1 : Obj) (q : Nat),
  (∀ W : World,W.heap=W0.heap→(Instr.lookup 52 (.map (some mb)) (.agg #[.string e.x,.string e.y,.string e.z]) false).run Tryz.prog W=.ok (.int .i64 ((kget m e).getD 0)) W) ∧
  (∀ W : World,W.heap=W0.heap→(Instr.mapEntry 52 (.map (some mb)) (.agg #[.string e.x,.string e.y,.string e.z])).run Tryz.prog W=.ok (.tuple #[.int .i64 ((kget m e).getD 0),.int .i64 q]) (setBlock W mb M1)) ∧
  (∀ W : World,W.heap=(setBlock W0 mb M1).heap→(Instr.lookup 52 (.map (some mb)) (.agg #[.string e.x,.string e.y,.string e.z]) false).run Tryz.prog W=.ok (.int .i64 ((kget m e).getD 0)) W) ∧
  (∀ W : World,W.heap=(setBlock W0 mb M1).heap→(Instr.entryStore 52 (.map (some mb)) (.int .i64 q) (.int .i64 ((kget m e).getD 0+d))).run Tryz.prog W=.ok () (setBlock W mb (Mo SV.val iv (vput m e d)))):=by
 have under_vi : Tryz.prog.underlying 52=some (.map 26 3):=Tryz.underlying52
 refine ⟨Mo SV.val iv (ktouch m e 0),kat m e,fun W h=>?_,fun W h=>?_,fun W h=>?_,fun W h=>?_⟩
 ·have:=mo_lookup (g:=iv) kl_vec under_vi (w:=W) (b:=mb) (l:=m) (by rw [h]; exact hm) e 0 (zero_int W) false
  exact this
 ·have:=mo_entry (g:=iv) kl_vec under_vi (w:=W) (b:=mb) (l:=m) (by rw [h]; exact hm) e 0 (zero_int W)
  exact this
 ·have:=mo_lookup (g:=iv) kl_vec under_vi (w:=W) (b:=mb) (l:=ktouch m e 0) (by rw [h]; exact setBlock_heap hm) e 0 (zero_int W) false
  have e2 : (kget (ktouch m e 0) e).getD 0=(kget m e).getD 0:=by unfold ktouch; rw [kget_kset,if_pos rfl]; rfl
  rw [e2] at this
  exact this
 ·exact mo_store (g:=iv) (t:=52) (w:=W) (b:=mb) (l:=m) (x:=e) (z:=0) (by rw [h]; exact setBlock_heap hm) _
set_option maxHeartbeats 4000000 in
set_option maxRecDepth 100000 in
theorem closes13_out (A : Option Addr) (n cap : Nat) (l : List TV) (x1 x2 x3 x4 : ByteArray) (w : World) (hB : Bw w) (hv : Ts w (.slice A n cap) l)
  (hf : ∀ w,Ts w (.slice A n cap) l→Calls Tryz.prog 11 #[.slice A n cap,.agg #[.string x1,.string x2,.string x3,.string x4]] w fun e w'=>e=.returned (.bool false)∧Below w.heap.size w w') :
  Calls Tryz.prog 5 #[.slice A n cap,.agg #[.string x1,.string x2,.string x3,.string x4]] w fun e w'=>e=.returned (.bool true)∧Below w.heap.size w w':=by
 have HV:=Lib.hid hv
 clear hv
 have H0:=Lib.hid (fun w hB=>awake13_walk w hB)
 have HF:=Lib.hid hf
 clear hf
 go_enter Tryz.func5,Tryz.ntmps5
 go_wp2_with fail
 refine (H0.out _ (hB.below bel)).mono ?_
 rintro e w1 ⟨rfl,g1⟩
 have HP:=Lib.hid (show Bk w1 w.heap.size [.string x1,.string x2,.string x3,.string x4] from Bk.below bkk g1)
 have S1:=bn (w:=w) bel g1
 replace HV:=Lib.hid (HV.out.below S1)
 have B1:=S1
 clear S1 g1
 obtain ⟨p0,p1,p2,p3, -⟩:=HP.out.c4
 have hpl:=HP.out.lt
 go_wp2_with fail
 refine (HF.out _ (HV.out.below bel)).mono ?_
 rintro e w2 ⟨rfl,g2⟩
 clear p0 p1 p2 p3 hpl
 have S2 : Below w1.heap.size w1 w2:=bn bel g2
 clear g2
 replace HV:=Lib.hid (HV.out.below S2)
 replace HP:=Lib.hid (HP.out.below S2)
 have B2 : Below w.heap.size w w2:=bn B1 S2
 clear S2
 go_wp2_with fail
 refine (H0.out _ (hB.below bel)).mono ?_
 rintro e w3 ⟨rfl,g3⟩
 have S3 : Below w2.heap.size w2 w3:=bn bel g3
 clear g3
 replace HV:=Lib.hid (HV.out.below S3)
 replace HP:=Lib.hid (HP.out.below S3)
 have B3 : Below w.heap.size w w3:=bn B2 S3
 clear S3
 go_wp2
 go_ret
 exact ⟨rfl,bel⟩
set_option maxHeartbeats 4000000 in
set_option maxRecDepth 100000 in
theorem closes13_bad (A : Option Addr) (n cap : Nat) (l : List TV) (x1 x2 x3 x4 : ByteArray) (w : World) (hB : Bw w) (hv : Ts w (.slice A n cap) l)
  (z : Int) (hz : (z != 0)=true)
  (hf : ∀ w,Ts w (.slice A n cap) l→Calls Tryz.prog 11 #[.slice A n cap,.agg #[.string x1,.string x2,.string x3,.string x4]] w fun e w'=>e=.returned (.bool true)∧Below w.heap.size w w')
  (hcl : ∀ A cap w,Ts w (.slice A n cap) l→Calls Tryz.prog 13 #[.slice A n cap] w (Ret fun r w'=>(∃ A c,r=.slice A n c∧Ts w' (.slice A n c) l)∧Below w.heap.size w w'))
  (h1 : ∀ A cap w,Bw w→Ts w (.slice A n cap) l→Calls Tryz.prog 12 #[.slice A n cap,.agg #[.string x1,.string x2,.string x3,.string x4]] w fun e w'=>e=.returned (.tuple #[.slice none 0 0,.int .i64 z])∧Below w.heap.size w w')
  (h2 : ∀ A cap w,Bw w→Ts w (.slice A n cap) l→Calls Tryz.prog 15 #[.slice A n cap,.agg #[.string x1,.string x2,.string x3,.string x4]] w fun e w'=>e=.returned (.tuple #[.slice none 0 0,.int .i64 z])∧Below w.heap.size w w')
  (h3 : ∀ A cap w,Bw w→Ts w (.slice A n cap) l→Calls Tryz.prog 17 #[.slice A n cap,.agg #[.string x1,.string x2,.string x3,.string x4]] w fun e w'=>e=.returned (.tuple #[.slice none 0 0,.int .i64 z])∧Below w.heap.size w w') :
  Calls Tryz.prog 5 #[.slice A n cap,.agg #[.string x1,.string x2,.string x3,.string x4]] w fun e w'=>e=.returned (.bool true)∧Below w.heap.size w w':=by
 have HV:=Lib.hid hv
 clear hv
 have H0:=Lib.hid (fun w hB=>awake13_walk w hB)
 have HF:=Lib.hid hf
 clear hf
 have HCL:=Lib.hid hcl
 clear hcl
 have H1:=Lib.hid h1
 clear h1
 have H2:=Lib.hid h2
 clear h2
 have H3:=Lib.hid h3
 clear h3
 go_enter Tryz.func5,Tryz.ntmps5
 go_wp2_with fail
 refine (H0.out _ (hB.below bel)).mono ?_
 rintro e w1 ⟨rfl,g1⟩
 have HP:=Lib.hid (show Bk w1 w.heap.size [.string x1,.string x2,.string x3,.string x4] from Bk.below bkk g1)
 have S1:=bn (w:=w) bel g1
 replace HV:=Lib.hid (HV.out.below S1)
 have B1:=S1
 clear S1 g1
 obtain ⟨p0,p1,p2,p3, -⟩:=HP.out.c4
 have hpl:=HP.out.lt
 go_wp2_with fail
 refine (HF.out _ (HV.out.below bel)).mono ?_
 rintro e w2 ⟨rfl,g2⟩
 clear p0 p1 p2 p3 hpl
 have S2 : Below w1.heap.size w1 w2:=bn bel g2
 clear g2
 replace HV:=Lib.hid (HV.out.below S2)
 replace HP:=Lib.hid (HP.out.below S2)
 have B2 : Below w.heap.size w w2:=bn B1 S2
 clear S2
 go_wp2
 obtain ⟨p0,p1,p2,p3, -⟩:=HP.out.c4
 have hpl:=HP.out.lt
 go_region_held3 (fun w'=>w'.cell? ⟨w.heap.size,0,none⟩=some (.string x1)∧w'.cell? ⟨w.heap.size,1,none⟩=some (.string x2)∧w'.cell? ⟨w.heap.size,2,none⟩=some (.string x3)∧w'.cell? ⟨w.heap.size,3,none⟩=some (.string x4)∧Below w2.heap.size w2 w')
  ((refine (fun hb=>⟨bc hb p0,bc hb p1,bc hb p2,bc hb p3,hb⟩) ?_; go_split_ands; repeat (first | with_reducible assumption | (with_reducible exact bd (br _)) | (with_reducible exact br _) | (with_reducible refine bn ?_ g) | (with_reducible refine ba ?_) | (with_reducible refine bd ?_))))
  (first
   | (go_at_call 13; refine (HCL.out _ _ _ (HV.out.below (by go_split_ands; assumption))).mono ?_; rintro e wx1 ⟨_,rfl,⟨A4,c4,rfl,q3⟩,g⟩; have X1 : Below w2.heap.size w2 wx1:=bn (by go_split_ands; assumption) g; have V3:=Lib.hid q3; clear q3)
   | (go_at_call 12; have X1x:=X1; refine (H1.out _ _ _ (hB.below (bn B2 (by go_split_ands; assumption))) (V3.out.below (by repeat (first | with_reducible exact br _ | with_reducible assumption | with_reducible refine ba ?_ | with_reducible refine bd ?_ | (refine below_drewN ?_ _))))).mono ?_; rintro e w3 ⟨rfl,g⟩; have S3 : Below w2.heap.size w2 w3:=bn (by go_split_ands; assumption) g))
 clear V3
 clear p0 p1 p2 p3 hpl
 replace HV:=Lib.hid (HV.out.below S3)
 replace HP:=Lib.hid (HP.out.below S3)
 have B3 : Below w.heap.size w w3:=bn B2 S3
 clear S3
 go_wp2
 obtain ⟨p0,p1,p2,p3, -⟩:=HP.out.c4
 have hpl:=HP.out.lt
 go_region_held3 (fun w'=>w'.cell? ⟨w.heap.size,0,none⟩=some (.string x1)∧w'.cell? ⟨w.heap.size,1,none⟩=some (.string x2)∧w'.cell? ⟨w.heap.size,2,none⟩=some (.string x3)∧w'.cell? ⟨w.heap.size,3,none⟩=some (.string x4)∧Below w3.heap.size w3 w')
  ((refine (fun hb=>⟨bc hb p0,bc hb p1,bc hb p2,bc hb p3,hb⟩) ?_; go_split_ands; repeat (first | with_reducible assumption | (with_reducible exact bd (br _)) | (with_reducible exact br _) | (with_reducible refine bn ?_ g) | (with_reducible refine ba ?_) | (with_reducible refine bd ?_))))
  (first
   | (go_at_call 13; refine (HCL.out _ _ _ (HV.out.below (by go_split_ands; assumption))).mono ?_; rintro e wx1 ⟨_,rfl,⟨A4,c4,rfl,q3⟩,g⟩; have X1 : Below w3.heap.size w3 wx1:=bn (by go_split_ands; assumption) g; have V3:=Lib.hid q3; clear q3)
   | (go_at_call 15; have X1x:=X1; refine (H2.out _ _ _ (hB.below (bn B3 (by go_split_ands; assumption))) (V3.out.below (by repeat (first | with_reducible exact br _ | with_reducible assumption | with_reducible refine ba ?_ | with_reducible refine bd ?_ | (refine below_drewN ?_ _))))).mono ?_; rintro e w4 ⟨rfl,g⟩; have S4 : Below w3.heap.size w3 w4:=bn (by go_split_ands; assumption) g))
 clear V3
 clear p0 p1 p2 p3 hpl
 replace HV:=Lib.hid (HV.out.below S4)
 replace HP:=Lib.hid (HP.out.below S4)
 have B4 : Below w.heap.size w w4:=bn B3 S4
 clear S4
 go_wp2
 obtain ⟨p0,p1,p2,p3, -⟩:=HP.out.c4
 have hpl:=HP.out.lt
 go_region_held3 (fun w'=>w'.cell? ⟨w.heap.size,0,none⟩=some (.string x1)∧w'.cell? ⟨w.heap.size,1,none⟩=some (.string x2)∧w'.cell? ⟨w.heap.size,2,none⟩=some (.string x3)∧w'.cell? ⟨w.heap.size,3,none⟩=some (.string x4)∧Below w4.heap.size w4 w')
  ((refine (fun hb=>⟨bc hb p0,bc hb p1,bc hb p2,bc hb p3,hb⟩) ?_; go_split_ands; repeat (first | with_reducible assumption | (with_reducible exact bd (br _)) | (with_reducible exact br _) | (with_reducible refine bn ?_ g) | (with_reducible refine ba ?_) | (with_reducible refine bd ?_))))
  (first
   | (go_at_call 13; refine (HCL.out _ _ _ (HV.out.below (by go_split_ands; assumption))).mono ?_; rintro e wx1 ⟨_,rfl,⟨A4,c4,rfl,q3⟩,g⟩; have X1 : Below w4.heap.size w4 wx1:=bn (by go_split_ands; assumption) g; have V3:=Lib.hid q3; clear q3)
   | (go_at_call 17; have X1x:=X1; refine (H3.out _ _ _ (hB.below (bn B4 (by go_split_ands; assumption))) (V3.out.below (by repeat (first | with_reducible exact br _ | with_reducible assumption | with_reducible refine ba ?_ | with_reducible refine bd ?_ | (refine below_drewN ?_ _))))).mono ?_; rintro e w5 ⟨rfl,g⟩; have S5 : Below w4.heap.size w4 w5:=bn (by go_split_ands; assumption) g))
 clear V3
 clear p0 p1 p2 p3 hpl
 replace HV:=Lib.hid (HV.out.below S5)
 replace HP:=Lib.hid (HP.out.below S5)
 have B5 : Below w.heap.size w w5:=bn B4 S5
 clear S5
 go_wp2
 go_ret
 exact ⟨rfl,bel⟩
set_option maxHeartbeats 4000000 in
set_option maxRecDepth 100000 in
theorem closes13_at (A : Option Addr) (n cap : Nat) (l : List TV) (x1 x2 x3 x4 : ByteArray) (w : World) (hB : Bw w) (hv : Ts w (.slice A n cap) l)
  (D U : List TV) (E : List (SV × SV))
  (hf : ∀ w,Ts w (.slice A n cap) l→Calls Tryz.prog 11 #[.slice A n cap,.agg #[.string x1,.string x2,.string x3,.string x4]] w fun e w'=>e=.returned (.bool true)∧Below w.heap.size w w')
  (hcl : ∀ A cap w,Ts w (.slice A n cap) l→Calls Tryz.prog 13 #[.slice A n cap] w (Ret fun r w'=>(∃ A c,r=.slice A n c∧Ts w' (.slice A n c) l)∧Below w.heap.size w w'))
  (h1 : ∀ A cap w,Bw w→Ts w (.slice A n cap) l→Calls Tryz.prog 12 #[.slice A n cap,.agg #[.string x1,.string x2,.string x3,.string x4]] w (SolR D w))
  (h2 : ∀ A cap w,Bw w→Ts w (.slice A n cap) l→Calls Tryz.prog 15 #[.slice A n cap,.agg #[.string x1,.string x2,.string x3,.string x4]] w (SolR U w))
  (h3 : ∀ A cap w,Bw w→Ts w (.slice A n cap) l→Calls Tryz.prog 17 #[.slice A n cap,.agg #[.string x1,.string x2,.string x3,.string x4]] w (SegR E w))
  (hd : ∀ v w,Bw w→Ts w v D→Calls Tryz.prog 29 #[v] w fun e w'=>e=.returned (.int .i64 0)∧Below w.heap.size w w')
  (hu : ∀ v w,Bw w→Ts w v U→Calls Tryz.prog 29 #[v] w fun e w'=>e=.returned (.int .i64 0)∧Below w.heap.size w w')
  (he : ∀ x,bal E x=0) (hne : E.length≤100000) :
  Calls Tryz.prog 5 #[.slice A n cap,.agg #[.string x1,.string x2,.string x3,.string x4]] w fun e w'=>e=.returned (.bool true)∧Below w.heap.size w w':=by
 have HV:=Lib.hid hv
 clear hv
 have H0:=Lib.hid (fun w hB=>awake13_walk w hB)
 have HF:=Lib.hid hf
 clear hf
 have HCL:=Lib.hid hcl
 clear hcl
 have H1:=Lib.hid h1
 clear h1
 have H2:=Lib.hid h2
 clear h2
 have H3:=Lib.hid h3
 clear h3
 have HD:=Lib.hid hd
 clear hd
 have HU:=Lib.hid hu
 clear hu
 have HE:=Lib.hid he
 clear he
 go_enter Tryz.func5,Tryz.ntmps5
 go_wp2_with fail
 refine (H0.out _ (hB.below bel)).mono ?_
 rintro e w1 ⟨rfl,g1⟩
 have HP:=Lib.hid (show Bk w1 w.heap.size [.string x1,.string x2,.string x3,.string x4] from Bk.below bkk g1)
 have S1:=bn (w:=w) bel g1
 replace HV:=Lib.hid (HV.out.below S1)
 have B1:=S1
 clear S1 g1
 obtain ⟨p0,p1,p2,p3, -⟩:=HP.out.c4
 have hpl:=HP.out.lt
 go_wp2_with fail
 refine (HF.out _ (HV.out.below bel)).mono ?_
 rintro e w2 ⟨rfl,g2⟩
 clear p0 p1 p2 p3 hpl
 have S2 : Below w1.heap.size w1 w2:=bn bel g2
 clear g2
 replace HV:=Lib.hid (HV.out.below S2)
 replace HP:=Lib.hid (HP.out.below S2)
 have B2 : Below w.heap.size w w2:=bn B1 S2
 clear S2
 go_wp2
 obtain ⟨p0,p1,p2,p3, -⟩:=HP.out.c4
 have hpl:=HP.out.lt
 go_region_held3 (fun w'=>w'.cell? ⟨w.heap.size,0,none⟩=some (.string x1)∧w'.cell? ⟨w.heap.size,1,none⟩=some (.string x2)∧w'.cell? ⟨w.heap.size,2,none⟩=some (.string x3)∧w'.cell? ⟨w.heap.size,3,none⟩=some (.string x4)∧Below w2.heap.size w2 w')
  ((refine (fun hb=>⟨bc hb p0,bc hb p1,bc hb p2,bc hb p3,hb⟩) ?_; go_split_ands; repeat (first | with_reducible assumption | (with_reducible exact bd (br _)) | (with_reducible exact br _) | (with_reducible refine bn ?_ g) | (with_reducible refine ba ?_) | (with_reducible refine bd ?_))))
  (first
   | (go_at_call 13; refine (HCL.out _ _ _ (HV.out.below (by go_split_ands; assumption))).mono ?_; rintro e wx1 ⟨_,rfl,⟨A4,c4,rfl,q3⟩,g⟩; have X1 : Below w2.heap.size w2 wx1:=bn (by go_split_ands; assumption) g; have V3:=Lib.hid q3; clear q3)
   | (go_at_call 12; have X1x:=X1; refine (H1.out _ _ _ (hB.below (bn B2 (by go_split_ands; assumption))) (V3.out.below (by repeat (first | with_reducible exact br _ | with_reducible assumption | with_reducible refine ba ?_ | with_reducible refine bd ?_ | (refine below_drewN ?_ _))))).mono ?_; rintro e w3 ⟨AD,cD,rfl,qD,g⟩; have S3 : Below w2.heap.size w2 w3:=bn (by go_split_ands; assumption) g))
 clear V3
 clear p0 p1 p2 p3 hpl
 replace HV:=Lib.hid (HV.out.below S3)
 replace HP:=Lib.hid (HP.out.below S3)
 have B3 : Below w.heap.size w w3:=bn B2 S3
 clear S3
 obtain ⟨nd,hnd0⟩ : ∃ x,x=D.length:=⟨_,rfl⟩
 rw [← hnd0] at qD ⊢
 have VD:=Lib.hid qD
 have ND:=Lib.hid hnd0
 clear qD hnd0
 go_wp2
 obtain ⟨p0,p1,p2,p3, -⟩:=HP.out.c4
 have hpl:=HP.out.lt
 go_region_held3 (fun w'=>w'.cell? ⟨w.heap.size,0,none⟩=some (.string x1)∧w'.cell? ⟨w.heap.size,1,none⟩=some (.string x2)∧w'.cell? ⟨w.heap.size,2,none⟩=some (.string x3)∧w'.cell? ⟨w.heap.size,3,none⟩=some (.string x4)∧Below w3.heap.size w3 w')
  ((refine (fun hb=>⟨bc hb p0,bc hb p1,bc hb p2,bc hb p3,hb⟩) ?_; go_split_ands; repeat (first | with_reducible assumption | (with_reducible exact bd (br _)) | (with_reducible exact br _) | (with_reducible refine bn ?_ g) | (with_reducible refine ba ?_) | (with_reducible refine bd ?_))))
  (first
   | (go_at_call 13; refine (HCL.out _ _ _ (HV.out.below (by go_split_ands; assumption))).mono ?_; rintro e wx1 ⟨_,rfl,⟨A4,c4,rfl,q3⟩,g⟩; have X1 : Below w3.heap.size w3 wx1:=bn (by go_split_ands; assumption) g; have V3:=Lib.hid q3; clear q3)
   | (go_at_call 15; have X1x:=X1; refine (H2.out _ _ _ (hB.below (bn B3 (by go_split_ands; assumption))) (V3.out.below (by repeat (first | with_reducible exact br _ | with_reducible assumption | with_reducible refine ba ?_ | with_reducible refine bd ?_ | (refine below_drewN ?_ _))))).mono ?_; rintro e w4 ⟨AU,cU,rfl,qU,g⟩; have S4 : Below w3.heap.size w3 w4:=bn (by go_split_ands; assumption) g))
 clear V3
 clear p0 p1 p2 p3 hpl
 replace HV:=Lib.hid (HV.out.below S4)
 replace HP:=Lib.hid (HP.out.below S4)
 replace VD:=Lib.hid (VD.out.below S4)
 have B4 : Below w.heap.size w w4:=bn B3 S4
 clear S4
 obtain ⟨nu,hnu0⟩ : ∃ x,x=U.length:=⟨_,rfl⟩
 rw [← hnu0] at qU ⊢
 have VU:=Lib.hid qU
 have NU:=Lib.hid hnu0
 clear qU hnu0
 go_wp2
 obtain ⟨p0,p1,p2,p3, -⟩:=HP.out.c4
 have hpl:=HP.out.lt
 go_region_held3 (fun w'=>w'.cell? ⟨w.heap.size,0,none⟩=some (.string x1)∧w'.cell? ⟨w.heap.size,1,none⟩=some (.string x2)∧w'.cell? ⟨w.heap.size,2,none⟩=some (.string x3)∧w'.cell? ⟨w.heap.size,3,none⟩=some (.string x4)∧Below w4.heap.size w4 w')
  ((refine (fun hb=>⟨bc hb p0,bc hb p1,bc hb p2,bc hb p3,hb⟩) ?_; go_split_ands; repeat (first | with_reducible assumption | (with_reducible exact bd (br _)) | (with_reducible exact br _) | (with_reducible refine bn ?_ g) | (with_reducible refine ba ?_) | (with_reducible refine bd ?_))))
  (first
   | (go_at_call 13; refine (HCL.out _ _ _ (HV.out.below (by go_split_ands; assumption))).mono ?_; rintro e wx1 ⟨_,rfl,⟨A4,c4,rfl,q3⟩,g⟩; have X1 : Below w4.heap.size w4 wx1:=bn (by go_split_ands; assumption) g; have V3:=Lib.hid q3; clear q3)
   | (go_at_call 17; have X1x:=X1; refine (H3.out _ _ _ (hB.below (bn B4 (by go_split_ands; assumption))) (V3.out.below (by repeat (first | with_reducible exact br _ | with_reducible assumption | with_reducible refine ba ?_ | with_reducible refine bd ?_ | (refine below_drewN ?_ _))))).mono ?_; rintro e w5 ⟨AE,cE,rfl,qE,g⟩; have S5 : Below w4.heap.size w4 w5:=bn (by go_split_ands; assumption) g))
 clear V3
 clear p0 p1 p2 p3 hpl
 replace HV:=Lib.hid (HV.out.below S5)
 replace HP:=Lib.hid (HP.out.below S5)
 replace VD:=Lib.hid (VD.out.below S5)
 replace VU:=Lib.hid (VU.out.below S5)
 have B5 : Below w.heap.size w w5:=bn B4 S5
 clear S5
 obtain ⟨ne,hne0⟩ : ∃ x,x=E.length:=⟨_,rfl⟩
 rw [← hne0] at qE hne ⊢
 have VE:=Lib.hid qE
 have NE:=Lib.hid hne0
 clear qE hne0
 clear HV HCL H1 H2 H3 HF H0 HP
 have HTE:=Lib.hid (show E.take ne=E from by rw [NE.out]; exact List.take_length)
 have hmm:=@run_makeMap Tryz.prog
 go_wp2_with fail
 obtain ⟨mb,hmb⟩ : ∃ mb,mb=w5.heap.size:=⟨_,rfl⟩
 rw [← hmb]
 have HMB:=Lib.hid hmb
 have hmb1 : w5.heap.size≤mb:=by omega
 have hwl:=B5.size
 clear hmb
 go_loopw [59] (fun ii wr=>∃ k : Nat,k≤ne∧ii=.int .i64 k∧(∃ m,wr.heap[mb]?=some (Mo SV.val iv m)∧Hid (EI m (E.take k)))∧Below w5.heap.size w5 wr) (fun ii _=>ne - (intOf ii).toNat)
 case atStart=>exact ⟨0,Nat.zero_le _,rfl,⟨[],by rw [HMB.out]; exact heap_new _ _,Lib.hid EI.nil⟩,ba (br _)⟩
 case round =>
  obtain ⟨k,hk,rfl,⟨m,hm,hmi⟩,hb⟩:=hrel
  have hsz:=hb.size
  have hmlt:=mp_lt hm
  by_cases hlt : k<ne
  ·obtain ⟨⟨e1,e2⟩,hg⟩ : ∃ t,E[k]?=some t:=⟨_,List.getElem?_eq_getElem (by rw [← NE.out]; exact hlt)⟩
   obtain ⟨b,off,hA,t0,t1,t2,t3,t4,t5⟩:=ss_nth (VE.out.below hb) hg
   subst hA
   dsimp only at t0 t1 t2 t3 t4 t5
   have hk0 : (0 : Int)≤(k : Int):=by omega
   have hkn : (k : Int)<(ne : Int):=by omega
   have hbl:=World.block_lt_of_cell? wr _ t0
   have HT:=Lib.hid (bal_take hg)
   have hml : (E.take k).length≤100000:=by have:=List.length_take_le k E; omega
   have hsd : ∀ (W : World) (b : Nat) (o : Obj),(setBlock W.drew b o).heap=(setBlock W b o).heap:=fun _ _ _=>rfl
   have hsd2 : ∀ (W : World),W.drew.heap=W.heap:=fun _=>rfl
   obtain ⟨tb,htb⟩ : ∃ tb,tb=wr.heap.size:=⟨_,rfl⟩
   have N0 : tb≠mb:=by omega
   clear hg
   go_upto_block 1 with fail
   go_cut [] (fun wx=>wx.heap[mb]?=some (Mo SV.val iv (vput (vput m e1 (1)) e2 (-1)))∧Below w5.heap.size w5 wx)
   case first =>
    go_wp2_with fail
    obtain ⟨V0,hV0⟩ : ∃ V0,V0=wr.alloc (.cells #[.string e1.x,.string e1.y,.string e1.z,.string e2.x,.string e2.y,.string e2.z] 54):=⟨_,rfl⟩
    rw [← hV0,← htb]
    have y0 : V0.cell? ⟨tb,0,none⟩=some (.string e1.x):=by rw [hV0,htb]; go_simp
    have y1 : V0.cell? ⟨tb,1,none⟩=some (.string e1.y):=by rw [hV0,htb]; go_simp
    have y2 : V0.cell? ⟨tb,2,none⟩=some (.string e1.z):=by rw [hV0,htb]; go_simp
    have y3 : V0.cell? ⟨tb,3,none⟩=some (.string e2.x):=by rw [hV0,htb]; go_simp
    have y4 : V0.cell? ⟨tb,4,none⟩=some (.string e2.y):=by rw [hV0,htb]; go_simp
    have y5 : V0.cell? ⟨tb,5,none⟩=some (.string e2.z):=by rw [hV0,htb]; go_simp
    have m0 : V0.heap[mb]?=some (Mo SV.val iv m):=by rw [hV0]; exact mp_alloc hm
    have b0 : Below w5.heap.size w5 V0:=by rw [hV0]; exact ba hb
    clear hm hb hV0 htb hmlt hsz t0 t1 t2 t3 t4 t5
    have m_V0:=m0
    obtain ⟨MV0,qV0,r1,r2,r3,r4⟩:=ev_rules V0 mb m e1 (1) m_V0
    try dsimp only at r1 r2 r3 r4
    obtain ⟨z,hz⟩ : ∃ z,z=(kget m e1).getD 0:=⟨_,rfl⟩
    have hz1:=(hmi.out.le e1).1
    have hz2:=(hmi.out.le e1).2
    rw [← hz] at r1 r2 r3 r4 hz1 hz2
    have hz3 : z≤200000:=by omega
    have hz4 : -200000≤z:=by omega
    have hzw : IntKind.i64.wrap (z+1)=z+1:=by rw [IntKind.wrap_i64]; omega
    have HM_V0:=Lib.hid m_V0
    clear hz hz1 hz2 m_V0
    go_upto_region 12 with fail
    go_cut [] (fun wx=>Turned V0 mb (Mo SV.val iv (vput m e1 (1))) wx)
    case first =>
     go_region_held3 (fun w'=>w'.cell? ⟨tb,0,none⟩=some (.string e1.x)∧w'.cell? ⟨tb,1,none⟩=some (.string e1.y)∧w'.cell? ⟨tb,2,none⟩=some (.string e1.z)∧w'.cell? ⟨tb,3,none⟩=some (.string e2.x)∧w'.cell? ⟨tb,4,none⟩=some (.string e2.y)∧w'.cell? ⟨tb,5,none⟩=some (.string e2.z))
      ((go_split_ands; refine (fun (hT : TK V0 mb _)=>⟨hT.cell y0 N0,hT.cell y1 N0,hT.cell y2 N0,hT.cell y3 N0,hT.cell y4 N0,hT.cell y5 N0⟩) ?_; repeat (first | with_reducible exact tk_start HM_V0.out | with_reducible refine tk_drew ?_ | with_reducible refine tk_set ?_)))
      (fail)
     all_goals
      go_wp2_with fail
      go_meet
      exact (by (repeat (with_reducible refine turned_drew ?_)); with_reducible refine turned_last ?_; repeat (first | with_reducible exact tk_start HM_V0.out | with_reducible refine tk_drew ?_ | with_reducible refine tk_set ?_))
    case rest =>
     obtain ⟨V1,hWW⟩ : ∃ x,x=wc:=⟨_,rfl⟩
     subst hWW
     have hT:=hcut
     have m_V1:=hT.here
     have b1:=hT.below b0 hmb1
     replace y0:=hT.cell y0 N0
     replace y1:=hT.cell y1 N0
     replace y2:=hT.cell y2 N0
     replace y3:=hT.cell y3 N0
     replace y4:=hT.cell y4 N0
     replace y5:=hT.cell y5 N0
     clear hT hcut r1 r2 r3 r4 hz3 hz4 hzw
     obtain ⟨MV1,qV1,r1,r2,r3,r4⟩:=ev_rules V1 mb (vput m e1 (1)) e2 (-1) m_V1
     try dsimp only at r1 r2 r3 r4
     obtain ⟨z,hz⟩ : ∃ z,z=(kget (vput m e1 (1)) e2).getD 0:=⟨_,rfl⟩
     have hz1:=(hmi.out.le1 e1 e2).1
     have hz2:=(hmi.out.le1 e1 e2).2
     rw [← hz] at r1 r2 r3 r4 hz1 hz2
     have hz3 : z≤200000:=by omega
     have hz4 : -200000≤z:=by omega
     rw [show z + (-1)=z - 1 by omega] at r4
     have hzw : IntKind.i64.wrap (z - 1)=z - 1:=by rw [IntKind.wrap_i64]; omega
     have HM_V1:=Lib.hid m_V1
     clear hz hz1 hz2 m_V1
     go_upto_region 13 with fail
     go_region_held3 (fun w'=>w'.cell? ⟨tb,0,none⟩=some (.string e1.x)∧w'.cell? ⟨tb,1,none⟩=some (.string e1.y)∧w'.cell? ⟨tb,2,none⟩=some (.string e1.z)∧w'.cell? ⟨tb,3,none⟩=some (.string e2.x)∧w'.cell? ⟨tb,4,none⟩=some (.string e2.y)∧w'.cell? ⟨tb,5,none⟩=some (.string e2.z))
      ((go_split_ands; refine (fun (hT : TK V1 mb _)=>⟨hT.cell y0 N0,hT.cell y1 N0,hT.cell y2 N0,hT.cell y3 N0,hT.cell y4 N0,hT.cell y5 N0⟩) ?_; repeat (first | with_reducible exact tk_start HM_V1.out | with_reducible refine tk_drew ?_ | with_reducible refine tk_set ?_)))
      (fail)
     all_goals
      go_wp2_with fail
      go_meet
      exact (fun (hT : Turned V1 mb (Mo SV.val iv (vput (vput m e1 (1)) e2 (-1))) _)=>⟨hT.here,hT.below b1 hmb1⟩) (by (repeat (with_reducible refine turned_drew ?_)); with_reducible refine turned_last ?_; repeat (first | with_reducible exact tk_start HM_V1.out | with_reducible refine tk_drew ?_ | with_reducible refine tk_set ?_))
   case rest =>
    obtain ⟨hm2,hb2⟩:=hcut
    have HM2:=Lib.hid hm2
    have HI2:=Lib.hid (hmi.out.put (e1,e2))
    clear hm2 hm hmi
    go_wp2
    go_roundw
    case rel=>exact ⟨k+1,by omega,by go_num,⟨_,HM2.out,Lib.hid (by rw [HT.out]; exact HI2.out)⟩,hb2⟩
    case measure=>simp [intOf]; omega
  ·obtain rfl : k=ne:=by omega
   rw [HTE.out] at hmi
   have HMI:=Lib.hid (fun (p : SV × Int) (hp : p ∈ m)=>hmi.out.zero HE.out hp)
   clear hmi
   obtain ⟨wi,hwi⟩ : ∃ x,x=wr:=⟨_,rfl⟩
   subst hwi
   have hrn:=mo_range (P:=Tryz.prog) (t:=52) (f:=SV.val) (g:=iv) Tryz.underlying52 hm
   have hrs:=rg_start (f:=SV.val) (g:=iv) hm
   obtain ⟨r,hr⟩ : ∃ r,r=wi.heap.size:=⟨_,rfl⟩
   have hr1 : w5.heap.size≤r:=by omega
   rw [← hr] at hrn hrs
   have hb3 : Below w5.heap.size w5 (wi.alloc (.mapIter (some mb) m.length #[] m.length)):=ba hb
   clear hr hm hb
   go_wp2_with fail
   go_loopw [15] (fun sx wr=>(∃ seen,Rg wr r mb SV.val iv m seen)∧Below w5.heap.size w5 wr) (fun _ wr=>rgLeft m SV.val iv (wr.iterSeen r))
   case atStart=>exact ⟨⟨#[],hrs⟩,hb3⟩
   case round =>
    obtain ⟨⟨seen,hrg⟩,hb4⟩:=hrel
    have hsz4:=hb4.size
    rcases rg_next (P:=Tryz.prog) hrg 0 with ⟨hall,hrun⟩ | ⟨j,⟨s,u⟩,w',hp,hsj,hrun,hrg2,hlt3,⟨w1,hw1,hw2⟩,hen⟩
    ·have BR : Below w.heap.size w wr:=bn B5 hb4
     have TD:=Lib.hid (VD.out.below hb4)
     have TU:=Lib.hid (VU.out.below hb4)
     clear hall hrg hb3 hrs hrn
     go_wp2_with fail
     refine (HD.out _ _ (hB.below BR) TD.out).mono ?_
     rintro e wd ⟨rfl,gd⟩
     have BD : Below w.heap.size w wd:=bn BR gd
     replace TU:=Lib.hid (TU.out.below gd)
     clear gd
     go_wp2_with fail
     refine (HU.out _ _ (hB.below BD) TU.out).mono ?_
     rintro e we ⟨rfl,ge⟩
     have BE : Below w.heap.size w we:=bn BD ge
     clear ge
     go_wp2
     go_ret
     exact ⟨rfl,BE⟩
    ·have hb5 : Below w5.heap.size w5 w':=by
      rw [hw2]
      rcases hw1 with rfl | rfl
      ·exact below_setBlock hb4 hr1 _
      ·exact below_setBlock (bd hb4) hr1 _
     have HME:=Lib.hid hlt3
     have HGr:=Lib.hid hrg
     have HG3:=Lib.hid hrg2
     obtain rfl : u=0:=HMI.out _ (List.mem_of_getElem? hp)
     unfold SV.val iv at hrun hen
     try dsimp only at hrun hen
     clear hp hsj hlt3 hw1 hw2 hrg hrg2 hb3 hrs hrn
     go_wp2
     go_roundw
     case rel=>exact ⟨⟨_,HG3.out⟩,hb5⟩
     case measure=>rw [rg_seen HG3.out,rg_seen HGr.out]; exact HME.out
end Go.Proofs.YtopfedbhkfdjkaaGreatDoor

/- rows: planes, numbers and rows of numbers that came in, opened. -/
set_option maxRecDepth 100000
namespace Go.Proofs.YtopfedbhkfdjkaaGreatDoor
open Go Go.ChangeShapes Go.WideShapes Go.ChangeAt Go.RowKit Go.Joins Go.Deep
open Go.ChangeMaps (open_string shut_string)
section
variable {H : Type} {enc : TypeId × Value→H} {W : World} {v : Value} {d : DataW H} {p : List MemPlace}
theorem open_plane {r : Reach} {b0 : Nat} (hval : Value.okWide Tryz.prog W r b0 28 v) (h : DataW.Trod enc Tryz.prog W 0 (fun _=>true) true 28 v d p) :
  ∃ (s : SV) (c : ByteArray),v=.agg #[.string s.x,.string s.y,.string s.z,.string c]∧c.size≤maxLen:=by
 obtain ⟨cs,rfl,hsz⟩:=okWide_struct Tryz.underlying28 hval
 obtain ⟨fuel,hf⟩:=h
 obtain ⟨y0,y1,n,hx,hl,h0,h1⟩:=trod_struct2 Tryz.underlying28 hf
 have e4 : Tryz.prog.cellsOf 28=4:=by kernel_rfl
 have e1 : Tryz.prog.cellsOf 24=1:=by kernel_rfl
 rw [e4] at hsz
 obtain ⟨l⟩:=cs
 simp only [Value.cells] at h0 h1
 obtain ⟨s,hs⟩:=open_vec h0
 obtain ⟨c,hc, -,hm⟩:=DataW.trod_string Tryz.underlying24 h1
 match l,hsz with
 | [a0,a1,a2,a3],_ =>
  have q1 : [a0,a1,a2]=s.cells:=by rw [← hs,cells_vec]; rfl
  have q2 : [a3]=[Value.string c]:=by rw [← hc,e1]; rfl
  have q3 : s.cells=[.string s.x,.string s.y,.string s.z]:=rfl
  rw [q3] at q1
  simp only [List.cons.injEq,and_true] at q1 q2
  obtain ⟨rfl,rfl,rfl⟩:=q1
  subst q2
  exact ⟨s,c,rfl,hm⟩
end
end Go.Proofs.YtopfedbhkfdjkaaGreatDoor

/- laws of chapter 13: small inputs, and what clip answers on them. -/
namespace Go.Proofs.YtopfedbhkfdjkaaGreatDoor
open Go Go.RowKit
theorem few13_parts {l : List TV} {s : SV} {c : ByteArray} (h : few13 l s c=true) : fewT l=true∧isFew s=true∧c.size≤20:=by
 unfold few13 at h
 simp only [Bool.and_eq_true,decide_eq_true_eq] at h
 exact h
theorem few13_len {l : List TV} {s : SV} {c : ByteArray} (h : few13 l s c=true) : l.length≤513:=few_len (few13_parts h).1
theorem clone13 (l : List TV) (hm : l.length≤513) : ∀ (A : Option Addr) (cap : Nat) (w : World),Ts w (.slice A l.length cap) l →
  Calls Tryz.prog 13 #[.slice A l.length cap] w (Ret fun r w'=>(∃ A c,r=.slice A l.length c∧Ts w' (.slice A l.length c) l)∧Below w.heap.size w w') :=
 fun A cap w hv=>clone_sl _ l _ rfl (by omega) w hv
theorem few_short {l : List TV} (h : fewT l=true) (hn : l.length≤512) : l.length≤40:=by
 unfold fewT fewLen at h
 simp only [Bool.and_eq_true,Bool.or_eq_true,decide_eq_true_eq] at h
 omega
theorem in13 {l : List TV} {s : SV} {c : ByteArray} (h : few13 l s c=true) : (∃ (L : List (Tr V3)) (p : Pl),l=L.map txt∧s=txv p.n∧c=rtx p.c∧p.n≠V3.zero∧p.le 20∧leT L 20∧chkC (L.map txt)=0∧L.length≤40)∨chkS l s c≠0:=by
 obtain ⟨h1,h2,h3⟩:=few13_parts h
 by_cases hz : chkS l s c=0
 ·unfold chkS at hz
  by_cases hk : chkC l=0
  ·rw [if_pos hk] at hz
   obtain ⟨k1,k2,k3⟩:=chkC_zero hk
   obtain ⟨L,rfl⟩:=solid_of k2
   rcases plS_cases s c with hp | ⟨p,rfl,rfl,h0,_⟩
   ·rw [hp] at hz; cases hz
   ·refine .inl ⟨L,p,rfl,rfl,rfl,h0,⟨few_le h2,rz_few h3⟩,few_leT h1,hk, ?_⟩
    have:=few_short h1 k1
    rwa [List.length_map] at this
  ·rw [if_neg hk] at hz
   exact absurd hz hk
 ·exact .inr hz
theorem bad13 {l : List TV} {s : SV} {c : ByteArray} (h : few13 l s c=true) (hz : chkS l s c≠0) :
  (∀ v w,Bw w→Ts w v l→Calls Tryz.prog 12 #[v,.agg #[.string s.x,.string s.y,.string s.z,.string c]] w fun e w'=>e=.returned (.tuple #[.slice none 0 0,.int .i64 (chkS l s c)])∧Below w.heap.size w w') ∧
  (∀ v w,Bw w→Ts w v l→Calls Tryz.prog 15 #[v,.agg #[.string s.x,.string s.y,.string s.z,.string c]] w fun e w'=>e=.returned (.tuple #[.slice none 0 0,.int .i64 (chkS l s c)])∧Below w.heap.size w w') ∧
  (∀ v w,Bw w→Ts w v l→Calls Tryz.prog 17 #[v,.agg #[.string s.x,.string s.y,.string s.z,.string c]] w fun e w'=>e=.returned (.tuple #[.slice none 0 0,.int .i64 (chkS l s c)])∧Below w.heap.size w w'):=by
 obtain ⟨h1,h2,h3⟩:=few13_parts h
 have hs:=few_sv h2
 have hs2 : s.le 1000000:=by
  simp only [isFew,Bool.and_eq_true,decide_eq_true_eq] at h2
  exact ⟨by have:=h2.1.1; omega,by have:=h2.1.2; omega,by have:=h2.2; omega⟩
 have hk : ∀ v w,Bw w→Ts w v l→_:=fun v w hB hv=>ccheck_walk v l s c w hB hv (few_tle h1) hs2 (by omega)
 have hb : (chkS l s c != 0)=true:=by simpa using hz
 refine ⟨fun v w hB hv=>?_,fun v w hB hv=>?_,fun v w hB hv=>?_⟩
 ·obtain ⟨A,cap,rfl, -, -, -⟩:=hv.open
  exact cBelow_bad A _ cap l _ _ _ _ w hB hv _ hb (fun w hB hv=>hk _ w hB hv)
 ·obtain ⟨A,cap,rfl, -, -, -⟩:=hv.open
  exact cAbove_bad A _ cap l _ _ _ _ w hB hv _ hb (fun w hB hv=>hk _ w hB hv)
 ·obtain ⟨A,cap,rfl, -, -, -⟩:=hv.open
  exact cSection_bad A _ cap l _ _ _ _ w hB hv _ hb (fun w hB hv=>hk _ w hB hv)
section
variable {p : Pl} {L : List (Tr V3)} (h0 : p.n≠V3.zero) (hp : p.le 100000) (hL : leT L 100000) (hk : chkC (L.map txt)=0) (v : Value) (w : World) (hB : Bw w) (hv : Ts w v (L.map txt))
include h0 hp hL hk hB hv
theorem cBelow13 (hS : (underL p L).length≤512) : Calls Tryz.prog 12 #[v,.agg #[.string (rtx p.n.x),.string (rtx p.n.y),.string (rtx p.n.z),.string (rtx p.c)]] w (SolR ((underL p L).map txt) w):=by
 have:=cBelow_ok h0 hp hL hk v w hB hv hS
 rwa [PV_eq] at this
theorem cAbove13 (hS : (overL p L).length≤512) : Calls Tryz.prog 15 #[v,.agg #[.string (rtx p.n.x),.string (rtx p.n.y),.string (rtx p.n.z),.string (rtx p.c)]] w (SolR ((overL p L).map txt) w):=by
 have:=cAbove_ok h0 hp hL hk v w hB hv hS
 rwa [PV_eq] at this
theorem cSection13 : Calls Tryz.prog 17 #[v,.agg #[.string (rtx p.n.x),.string (rtx p.n.y),.string (rtx p.n.z),.string (rtx p.c)]] w (SegR ((seL p L).map txe) w):=by
 have:=cSection_ok h0 hp hL hk v w hB hv
 rwa [PV_eq] at this
end
end Go.Proofs.YtopfedbhkfdjkaaGreatDoor

/- law of chapter 13: ClipCloses: whatever the input is, it returns true; the row and the card. -/
namespace Go.Proofs.YtopfedbhkfdjkaaGreatDoor
open Go Go.ChangeShapes Go.WideShapes Go.ChangeAt Go.RowKit Go.Joins
open Go.ChangeMaps (open_string shut_string)
theorem clipCloses_walk (v : Value) (l : List TV) (s : SV) (c : ByteArray) (hc : c.size ≤ maxLen) (w : World) (hB : Bw w) (hv : Ts w v l) :
  Calls Tryz.prog 5 #[v, .agg #[.string s.x, .string s.y, .string s.z, .string c]] w fun e w' => e = .returned (.bool true) ∧ Below w.heap.size w w' := by
 obtain ⟨A, cap, rfl, -, -, -⟩ := hv.open
 have hfw := fun w hv => few13_walk (.slice A l.length cap) l s c hc w hv
 cases hf : few13 l s c with
 | false =>
  rw [hf] at hfw
  exact closes13_out A l.length cap l _ _ _ _ w hB hv hfw
 | true =>
  rw [hf] at hfw
  have hcl := clone13 l (few13_len hf)
  rcases in13 hf with ⟨L, p, rfl, rfl, rfl, h0, hp, hL, hk, hl⟩ | hz
  ·have hp5 : p.le 100000 := ⟨hp.1.mono (by omega), by have := hp.2; omega⟩
   have hL5 : leT L 100000 := leT_mono hL (by omega)
   obtain ⟨q1, q2, q3, q4, q5⟩ := parts_le (n := 100000) hp hL (by omega)
   obtain ⟨n1, n2⟩ := parts_len p L
   obtain ⟨m1, m2, m3⟩ := dnL_len p L
   have hck : ∀ M, leT M 100000 → chkC (M.map txt) = 0 → ∀ v w, Bw w → Ts w v (M.map txt) → Calls Tryz.prog 29 #[v] w fun e w' => e = .returned (.int .i64 0) ∧ Below w.heap.size w w' := by
    intro M hl hk v w hB hv
    have := check_walk v (M.map txt) w hB hv (tle_txt hl (by omega))
    rw [hk] at this
    exact this
   exact closes13_at A _ cap _ _ _ _ _ w hB hv ((underL p L).map txt) ((overL p L).map txt) ((seL p L).map txe) hfw hcl
    (fun A cap w hB hv => cBelow13 h0 hp5 hL5 hk _ w hB hv (by omega)) (fun A cap w hB hv => cAbove13 h0 hp5 hL5 hk _ w hB hv (by omega)) (fun A cap w hB hv => cSection13 h0 hp5 hL5 hk _ w hB hv)
    (hck _ q4 (under_ck hk (by omega))) (hck _ q5 (over_ck hk (by omega))) (fun x => bal_even (section_even (by rw [← open_txt]; exact (chkC_zero hk).2.2) p) x) (by rw [List.length_map]; omega)
  ·obtain ⟨b1, b2, b3⟩ := bad13 hf hz
   exact closes13_bad A _ cap l _ _ _ _ w hB hv (chkS l s c) (by simpa using hz) hfw hcl (fun A cap w hB hv => b1 _ w hB hv) (fun A cap w hB hv => b2 _ w hB hv) (fun A cap w hB hv => b3 _ w hB hv)
/-! ### The row -/
set_option maxRecDepth 100000 in
theorem closes13_contract (H : Type) (enc : TypeId × Value → H) (W : World) (base : Nat) (args : Array Value) (ds gs : List (DataW H)) (before : List MemPlace)
  (hval : ∀ (j : Nat) t v, Tryz.f5.params[j]? = some t → args[j]? = some v → Value.okWide Tryz.prog W .any base t v)
  (hW : DataW.Whole enc Tryz.prog Tryz.f5.params.toList Rows.clipClosesSpec.vars false W args.toList ds gs before) (hL : laidMetH Tryz.prog Rows.clipClosesRow.laid W) (hS : W.ShapedOpen Tryz.prog) :
  Calls Tryz.prog 5 args W fun e W' => ∃ v, e = .returned v ∧ Rows.clipClosesSpec.post enc Tryz.prog Tryz.f5 false true false false W args v W' := by
 have hW' := hW
 obtain ⟨p, q, hA0, hV, rfl, hfz, hnd⟩ := hW
 have hA : DataW.TrodAll enc Tryz.prog W 0 (fun _ => true) true Tryz.f5.params.toList args.toList ds p := hA0
 rw [Tryz.params5] at hA hval
 clear hA0
 obtain ⟨v0, a0, d0, e0, p0, q0, g0, rfl, rfl, h0, hA0⟩ := trodAll_cons hA
 obtain ⟨v1, a1, d1, e1, p1, q1, rfl, rfl, rfl, h1, hA1⟩ := trodAll_cons hA0
 obtain ⟨rfl, rfl, rfl⟩ := trodAll_nil hA1
 obtain ⟨al⟩ := args
 change al = _ at g0
 subst g0
 obtain ⟨rfl, rfl⟩ := trodVars_none hV
 obtain ⟨l0, hl0⟩ := open_solid (hval 0 23 v0 rfl rfl) h0
 obtain ⟨s1, c1, rfl, x1⟩ := open_plane (hval 1 28 v1 rfl rfl) h1
 have hlt0 : ∀ x ∈ p0, x.block < W.heap.size := fun x hx => hW'.lt x (by simp [hx])
 have hlt1 : ∀ x ∈ p1, x.block < W.heap.size := fun x hx => hW'.lt x (by simp [hx])
 refine (clipCloses_walk v0 l0 s1 c1 x1 W (bw_of hL hS) hl0).mono fun e W' ⟨he, hg⟩ => ?_
 subst he
 refine ⟨_, rfl, _, _, _, [], (p0 ++ (p1 ++ [])), [], hW', ?_, ?_, rfl, hg.frame _, fun h => by cases h⟩
 ·exact trodAll_cons_mk (shut_bool Tryz.underlying4 _) trodAll_mk0
 ·exact (trodAll_cons_mk (Below.trod laidOut (by kernel_rfl) (of_decide_eq_true (by kernel_rfl)) h0 hg hlt0) (trodAll_cons_mk (Below.trod laidOut (by kernel_rfl) (of_decide_eq_true (by kernel_rfl)) h1 hg hlt1) trodAll_mk0))
theorem closes13_laid (os : Os) : laidMet Tryz.prog Rows.clipClosesRow.laid ((laidWorld os).forCall (fun _ _ => 0) ⟨#[], #[noSol, .agg #[.string ⟨#[]⟩, .string ⟨#[]⟩, .string ⟨#[]⟩, .string ⟨#[]⟩]], []⟩).memory :=
 laidMet_of_run' 8 (by kernel_rfl) (by kernel_rfl)
theorem closes13_reads (os : Os) {H : Type} (enc : TypeId × Value → H) : ∃ places, DataW.whole enc Tryz.prog ((laidWorld os).forCall (fun _ _ => 0) ⟨#[], #[noSol, .agg #[.string ⟨#[]⟩, .string ⟨#[]⟩, .string ⟨#[]⟩, .string ⟨#[]⟩]], []⟩).memory Tryz.f5.params.toList Rows.clipClosesSpec.vars false (#[noSol, .agg #[.string ⟨#[]⟩, .string ⟨#[]⟩, .string ⟨#[]⟩, .string ⟨#[]⟩]] : Array Value).toList 8 = some ([.nil, .agg [.agg [.lit (.string []), .lit (.string []), .lit (.string [])], .lit (.string [])]], [], places) :=
 ⟨[], by kernel_rfl⟩
set_option maxRecDepth 100000 in
theorem closes13_lifted (os : Os) (started : os.Started) (H : Type) (enc : TypeId × Value → H) (F : Stop.Interp) :
  ReturnsInHanded {} Tryz.checked os 5 .any ((OpenSpec.ofChange Rows.clipClosesSpec).preRow enc Tryz.prog Tryz.f5 Rows.clipClosesRow.domain false Rows.clipClosesRow.laid) (((OpenSpec.ofChange Rows.clipClosesSpec).at F).post enc Tryz.prog Tryz.f5 false true false false) := by
 obtain ⟨places, hx⟩ := closes13_reads os enc
 refine returnsInHanded_of_row (C := Tryz.checked) (s := OpenSpec.ofChange Rows.clipClosesSpec) own started (by kernel_rfl) Tryz.func5
  (witness_row_at (enc := enc) (C := Tryz.checked) false (laidWorld os) #[noSol, .agg #[.string ⟨#[]⟩, .string ⟨#[]⟩, .string ⟨#[]⟩, .string ⟨#[]⟩]] rfl (by kernel_rfl) (by kernel_rfl) (by kernel_rfl)
   (OpenSpec.preRow_of_cond 8 hx (by kernel_rfl) (fun k hk => by cases hk) (by kernel_rfl) (closes13_laid os))) ?_
 intro W base args ds gs before hval hW _ _ _ hL hS _
 exact closes13_contract H enc W base args ds gs before hval hW hL hS
theorem closes13_said : Rows.ClipClosesSaid :=
 OpenClaim.holds_of_cond 5 Tryz.f5 rfl rfl rfl rfl rfl rfl rfl ⟨rfl, rfl, rfl, rfl, rfl⟩ rfl rfl rfl rfl rfl (by kernel_rfl) Tryz.func5 (by kernel_rfl)
  (of_decide_eq_true (by kernel_rfl)) (by unfold Func.isWrapper; first | (rw [if_pos (by decide +kernel)]; kernel_rfl) | (rw [if_neg (by decide +kernel)]; exact ⟨rfl, rfl⟩))
  (fun os started H enc _ F => by rw [OpenClaim.pre_eq_preRow]; exact closes13_lifted os started H enc F)
theorem closes13_plain (f : FuncId) (fn : Func) (hf : Tryz.pinned.checked.prog.funcNamed "garboard/garboardlaw13.ClipCloses" = some f) (hfn : Tryz.pinned.checked.prog.funcs[f]? = some fn) :
  true = Tryz.pinned.checked.prog.looks [] ∧ ∀ (j : Nat) t, fn.params[j]? = some t → Tryz.pinned.checked.prog.wantsStandIn t = false := by
 obtain rfl : f = 5 := Option.some.inj ((show Tryz.prog.funcNamed "garboard/garboardlaw13.ClipCloses" = some 5 by kernel_rfl).symm.trans hf) |>.symm
 obtain rfl : fn = Tryz.f5 := (Option.some.inj (Tryz.func5.symm.trans hfn)).symm
 refine ⟨by kernel_rfl, fun j t ht => ?_⟩
 rw [Tryz.params5] at ht
 have : t = 23 ∨ t = 28 := by simpa using Array.mem_of_getElem? ht
 rcases this with rfl | rfl
 ·exact (show Tryz.prog.wantsStandIn 23 = false by kernel_rfl)
 ·exact (show Tryz.prog.wantsStandIn 28 = false by kernel_rfl)
theorem clipCloses_holds : Rows.ClipClosesCardSaid :=
 Claim7.holds_tied_plain_at .later [] _ _ _ _ closes13_said (fun _ h => by cases h) (by kernel_rfl) (fun _ h => by cases h) clipCloses_row_tie rfl ⟨rfl, rfl⟩ (by kernel_rfl) rfl closes13_plain (by kernel_rfl)
#print axioms clipCloses_holds
end Go.Proofs.YtopfedbhkfdjkaaGreatDoor
