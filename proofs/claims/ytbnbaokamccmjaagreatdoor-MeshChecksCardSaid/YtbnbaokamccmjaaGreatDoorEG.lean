/- The decimal text of a number, made from its lowest digit on, in plain Lean. -/
import Derived.Test.YtbnbaokamccmjaaGreatDoorE1
import Derived.Test.YtbnbaokamccmjaaGreatDoorE9
import Derived.Laws.IdiomStrings
import Derived.Deep.MidRow
import Derived.Test.YtbnbaokamccmjaaGreatDoorEF
import Derived.Deep.RegionLaw
set_option linter.unusedVariables false
set_option linter.unusedSimpArgs false
namespace Go.Proofs.YtbnbaokamccmjaaGreatDoor
open Go Go.RowKit Go.Lib
def lowd (n j : Nat) : List UInt8:=(List.range j).map fun i=>UInt8.ofNat (48+n / 10 ^ i % 10)
theorem lowd_length (n j : Nat) : (lowd n j).length=j:=by simp [lowd]
theorem lowd_zero (n : Nat) : lowd n 0=[]:=rfl
theorem lowd_succ (n j : Nat) : lowd n (j+1)=lowd n j++[UInt8.ofNat (48+n / 10 ^ j % 10)]:=by simp [lowd,List.range_succ]
theorem lowd_cons (n j : Nat) : lowd n (j+1)=UInt8.ofNat (48+n % 10) :: lowd (n / 10) j:=by
 unfold lowd
 rw [List.range_succ_eq_map,List.map_cons,List.map_map]
 congr 1
 ·simp
 ·apply List.map_congr_left
  intro i _
  simp only [Function.comp_apply]
  rw [Nat.div_div_eq_div_mul,Nat.pow_succ,Nat.mul_comm]
theorem lowd_text : ∀ (L n : Nat),0<n→n<10 ^ L→(L=0∨0<n / 10 ^ (L - 1))→(lowd n L).reverse=decDigits n
 | 0,n,h0,h,_=>by simp at h; omega
 | L+1,n,h0,h,hl=>by
  have hl2 : 0<n / 10 ^ L:=by
   rcases hl with hl | hl
   ·omega
   ·exact hl
  rw [lowd_cons,List.reverse_cons]
  by_cases h10 : n<10
  ·have : L=0:=by
    rcases Nat.eq_zero_or_pos L with h1 | h1
    ·exact h1
    ·have h2 : 10 ^ 1≤10 ^ L:=Nat.pow_le_pow_right (by omega) h1
     have:=Nat.div_eq_of_lt (show n<10 ^ L by omega)
     omega
   subst this
   rw [decDigits_small h10,lowd_zero,Nat.mod_eq_of_lt h10]
   rfl
  ·rw [decDigits_big h10]
   rw [lowd_text L (n / 10) (by omega) (by rw [Nat.div_lt_iff_lt_mul (by omega),← Nat.pow_succ]; exact h) ?_]
   rcases Nat.eq_zero_or_pos L with h1 | h1
   ·exact .inl h1
   ·right
    obtain ⟨k,rfl⟩ : ∃ k,L=k+1:=⟨L - 1,by omega⟩
    rw [Nat.add_sub_cancel,Nat.div_div_eq_div_mul,Nat.mul_comm,← Nat.pow_succ]
    exact hl2
def swapd (l : List UInt8) (i : Nat) : List UInt8:=(List.range l.length).map fun j=>if j<i∨l.length≤j+i then l.getD (l.length - 1 - j) 0 else l.getD j 0
theorem swapd_length (l : List UInt8) (i : Nat) : (swapd l i).length=l.length:=by simp [swapd]
theorem swapd_get (l : List UInt8) (i j : Nat) (h : j<l.length) : (swapd l i)[j]?=some (if j<i∨l.length≤j+i then l.getD (l.length - 1 - j) 0 else l.getD j 0):=by
 unfold swapd
 rw [List.getElem?_map,List.getElem?_range h]
 rfl
theorem swapd_zero (l : List UInt8) : swapd l 0=l:=by
 apply List.ext_getElem?
 intro j
 by_cases h : j<l.length
 ·rw [swapd_get l 0 j h,if_neg (by omega),List.getElem?_eq_getElem h,List.getD_eq_getElem?_getD,List.getElem?_eq_getElem h]
  rfl
 ·rw [List.getElem?_eq_none (by rw [swapd_length]; omega),List.getElem?_eq_none (by omega)]
theorem swapd_end (l : List UInt8) (i : Nat) (h : l.length≤2 * i+1) : swapd l i=l.reverse:=by
 apply List.ext_getElem?
 intro j
 by_cases hj : j<l.length
 ·rw [swapd_get l i j hj,List.getElem?_reverse hj]
  split
  ·rw [List.getD_eq_getElem?_getD,List.getElem?_eq_getElem (by omega)]
   rfl
  ·rw [List.getD_eq_getElem?_getD,List.getElem?_eq_getElem (by omega),List.getElem?_eq_getElem (by omega)]
   simp
   congr 1
   omega
 ·rw [List.getElem?_eq_none (by rw [swapd_length]; omega),List.getElem?_eq_none (by rw [List.length_reverse]; omega)]
theorem swapd_left {l : List UInt8} {i : Nat} (h : 2 * i+1<l.length) : (swapd l i)[i]?=some (l.getD i 0):=by
 rw [swapd_get l i i (by omega),if_neg (by omega)]
theorem swapd_right {l : List UInt8} {i : Nat} (h : 2 * i+1<l.length) : (swapd l i)[l.length - 1 - i]?=some (l.getD (l.length - 1 - i) 0):=by
 rw [swapd_get l i _ (by omega),if_neg (by omega)]
theorem swapd_step {l : List UInt8} {i : Nat} (h : 2 * i+1<l.length) : ((swapd l i).set i (l.getD (l.length - 1 - i) 0)).set (l.length - 1 - i) (l.getD i 0)=swapd l (i+1):=by
 apply List.ext_getElem?
 intro j
 by_cases hj : j<l.length
 ·rw [swapd_get l (i+1) j hj]
  by_cases h1 : l.length - 1 - i=j
  ·subst h1
   rw [List.getElem?_set_self (by rw [List.length_set,swapd_length]; omega),if_pos (by omega)]
   congr 2
   omega
  ·rw [List.getElem?_set_ne h1]
   by_cases h2 : i=j
   ·subst h2
    rw [List.getElem?_set_self (by rw [swapd_length]; omega),if_pos (by omega)]
   ·rw [List.getElem?_set_ne h2,swapd_get l i j hj]
    by_cases h3 : j<i∨l.length≤j+i
    ·rw [if_pos h3,if_pos (by omega)]
    ·rw [if_neg h3,if_neg (by omega)]
 ·rw [List.getElem?_eq_none (by rw [List.length_set,List.length_set,swapd_length]; omega),List.getElem?_eq_none (by rw [swapd_length]; omega)]
/-! ### The words of a number and its digits -/
theorem wds_get (n : Nat) : ∀ i,i<(wds n).length→(wds n).getD i 0=n / wB ^ i % wB:=by
 intro i
 induction i generalizing n with
 | zero =>
  intro h
  have h0 : n≠0:=by
   intro e
   rw [e,wds_zero] at h
   simp at h
  rw [wds_pos h0]
  simp
 | succ i ih =>
  intro h
  have h0 : n≠0:=by
   intro e
   rw [e,wds_zero] at h
   simp at h
  rw [wds_pos h0] at h ⊢
  rw [List.getD_cons_succ,ih (n / wB) (by simpa using h),Nat.div_div_eq_div_mul,Nat.pow_succ,Nat.mul_comm]
def wleft (n i k : Nat) : Nat:=n / wB ^ i % wB / 10 ^ k
theorem wleft_lt (n i k : Nat) : wleft n i k<wB:=Nat.lt_of_le_of_lt (Nat.div_le_self _ _) (Nat.mod_lt _ wB_pos)
theorem wleft_succ (n i k : Nat) : wleft n i k / 10=wleft n i (k+1):=by
 unfold wleft
 rw [Nat.div_div_eq_div_mul,Nat.pow_succ]
theorem wleft_digit (n i k : Nat) (hk : k<9) : wleft n i k % 10=n / 10 ^ (9 * i+k) % 10:=by
 unfold wleft
 have e : wB=10 ^ k * 10 ^ (9 - k):=by rw [← Nat.pow_add,wB_pow]; congr 1; omega
 rw [e,Nat.mod_mul_right_div_self,← e,Nat.mod_mod_of_dvd _ ⟨10 ^ (9 - k - 1),by rw [← Nat.pow_succ']; congr 1; omega⟩,Nat.div_div_eq_div_mul,wB_pow,← Nat.pow_mul,← Nat.pow_add]
theorem wleft_last (n i k : Nat) (h : i+1=(wds n).length) : wleft n i k=n / 10 ^ (9 * i+k):=by
 unfold wleft
 have h1:=lt_wds_pow n
 rw [← h,Nat.pow_succ] at h1
 rw [Nat.mod_eq_of_lt (by rw [Nat.div_lt_iff_lt_mul (Nat.pow_pos wB_pos),Nat.mul_comm]; exact h1),Nat.div_div_eq_div_mul,wB_pow,← Nat.pow_mul,← Nat.pow_add]
theorem lt_ten (n i : Nat) (h : i+1=(wds n).length) : n<10 ^ (9 * i+9):=by
 have h1:=lt_wds_pow n
 rw [← h,wB_pow,← Nat.pow_mul] at h1
 rwa [show 9 * i+9=9 * (i+1) by omega]
theorem last_pos (n i : Nat) (h : i+1=(wds n).length) : 0<wleft n i 0:=by
 rw [wleft_last n i 0 h,Nat.add_zero]
 have:=le_of_wds_length (show i<(wds n).length by omega)
 rw [wB_pow,← Nat.pow_mul] at this
 exact Nat.div_pos this (Nat.pow_pos (by omega))
end Go.Proofs.YtbnbaokamccmjaaGreatDoor

/- garboardref01: To: a number's text. -/
namespace Go.Proofs.YtbnbaokamccmjaaGreatDoor
open Go Go.RowKit
open Go.Lib (decDigits)
theorem info_u8 : (Tryz.prog.info? 5).map (fun i=>(i.zero,i.size,i.bytes))=some (some (.int .u8 0),1,1):=by kernel_rfl
def b8 (l : List UInt8) : List Value:=l.map fun c=>.int .u8 (c.toNat : Nat)
theorem b8_append (l m : List UInt8) : b8 (l++m)=b8 l++b8 m:=List.map_append
theorem b8_set (l : List UInt8) (i : Nat) (c : UInt8) : b8 (l.set i c)=(b8 l).set i (.int .u8 (c.toNat : Nat)):=by
 unfold b8
 rw [List.map_set]
theorem b8_get {l : List UInt8} {i : Nat} {c : UInt8} (h : l[i]?=some c) : (b8 l)[i]?=some (.int .u8 (c.toNat : Nat)):=by
 unfold b8
 rw [List.getElem?_map,h]
 rfl
theorem b8_digit (d : Nat) (h : d<10) : b8 [UInt8.ofNat (48+d)]=[.int .u8 ((48 : Int) + (d : Int))]:=by
 unfold b8
 rw [List.map_singleton,digit_toNat h]
 simp
theorem dec_of_rev {n : Nat} {xs : List UInt8} (h : xs.reverse=decDigits n) : (⟨xs.reverse.toArray⟩ : ByteArray)=dec n:=by rw [h]; rfl
set_option maxHeartbeats 4000000 in
set_option maxRecDepth 100000 in
theorem rTo_walk (v : Value) (n : Nat) (w : World) (h : Num w v n) (hm : (wds n).length≤1000000) :
  Calls Tryz.prog 101 #[v] w fun e w'=>e=.returned (.string (dec n))∧Below w.heap.size w w':=by
 obtain ⟨A,cap,rfl,hn,hc,hcell⟩:=h.open
 clear h
 rcases Nat.eq_zero_or_pos n with h0 | h0
 ·subst h0
  rw [wds_zero]
  clear hcell
  go_enter Tryz.func101,Tryz.ntmps101
  go_wp2
  go_ret
  exact ⟨by rw [dec_zero]; rfl,bel⟩
 ·have hm0 : 0<(wds n).length:=wds_length_pos.2 h0
  obtain ⟨b,off,rfl,hcl⟩:=hcell hm0
  have HC : Hid (∀ j,j<(wds n).length→w.cell? ⟨b,off+j,none⟩=some (.int .u32 (wleft n j 0 : Nat))):=Lib.hid (fun j hj=>by
   have:=hcl j hj
   rw [show wd (wds n) j=wleft n j 0 by unfold wleft; rw [Nat.pow_zero,Nat.div_one]; exact wds_get n j hj] at this
   exact this)
  have HLP:=Lib.hid (fun i (h : i+1=(wds n).length)=>last_pos n i h)
  have HLL:=Lib.hid (fun i k (h : i+1=(wds n).length)=>wleft_last n i k h)
  have HLT:=Lib.hid (fun i (h : i+1=(wds n).length)=>lt_ten n i h)
  clear hcl hcell
  generalize (wds n).length=m at *
  have i0 : ((m : Int) == 0)=false:=by simp; omega
  have i1 : (m : Int)≤1000000:=by omega
  go_enter Tryz.func101,Tryz.ntmps101
  go_wp2
  go_loopw [3,4] (fun ov ii wr=>∃ (i : Nat) (xs : List UInt8),i≤m∧ii=.int .i64 i∧wr.ownsRow w.heap.size 5 1 ov xs.length (b8 xs)∧Hid ((i<m→xs=lowd n (9 * i))∧(i=m→xs.reverse=decDigits n))∧xs.length≤9 * i∧Below w.heap.size w wr) (fun _ ii _=>m - (intOf ii).toNat)
  case atStart=>exact ⟨0,[],Nat.zero_le _,rfl,World.ownsRow_nil _ _ _ _,Lib.hid ⟨fun _=>rfl,fun h=>by omega⟩,Nat.le_refl _,Below.refl _ _⟩
  case round =>
   obtain ⟨i,xs,hi,rfl,hown,hx,hxl,hb⟩:=hrel
   have hsz:=hb.size
   by_cases hlt : i<m
   ·have e1:=hx.out.1 hlt
    subst e1
    have c0:=cell_below hb (HC.out i hlt)
    have hi0 : (0 : Int)≤(i : Int):=by omega
    have him : (i : Int)<(m : Int):=by omega
    have hOW:=Lib.hid hown
    clear hx hown hxl
    go_wp2
    go_loopw [3,5,6] (fun ov wv kv wx=>∃ k : Nat,k≤9∧kv=.int .i64 k∧wv=.int .u32 (wleft n i k : Nat)∧wx.ownsRow w.heap.size 5 1 ov (9 * i+k) (b8 (lowd n (9 * i+k)))∧Hid (i+1=m→k=0∨0<n / 10 ^ (9 * i+k - 1))∧Below w.heap.size w wx) (fun _ _ kv _=>9 - (intOf kv).toNat)
    case atStart=>exact ⟨0,Nat.zero_le _,rfl,rfl,by have:=hOW.out; rwa [lowd_length] at this,Lib.hid (fun _=>.inl rfl),bel⟩
    case round =>
     obtain ⟨k,hk,rfl,rfl,hown,hpre,hb⟩:=hrel
     have hsz:=hb.size
     have hk0 : (0 : Int)≤(k : Int):=by omega
     -- what is left
     have hxl:=wleft_lt n i k
     have hdg:=Lib.hid (wleft_digit n i k)
     have hsu:=Lib.hid (wleft_succ n i k)
     have hla:=Lib.hid (fun h=>HLL.out i k h)
     have HOW:=Lib.hid hown
     clear hown hOW c0
     obtain ⟨x,hx⟩ : ∃ x,x=wleft n i k:=⟨_,rfl⟩
     rw [← hx] at hxl hdg hsu hla ⊢
     have HX:=Lib.hid hx
     clear hx
     rw [wB_eq] at hxl
     have hx0 : (0 : Int)≤(x : Int):=by omega
     have hx1 : (x : Int)<1000000000:=by omega
     by_cases hgo : k<9∧(i+1<m∨0<x)
     ·have hk9 : (k : Int)<9:=by omega
      obtain ⟨d,hd⟩ : ∃ d : Nat,d=x % 10:=⟨_,rfl⟩
      obtain ⟨y,hy⟩ : ∃ y : Nat,y=x / 10:=⟨_,rfl⟩
      have r1 : (x : Int) % 10=(d : Int):=by omega
      have r2 : (x : Int) / 10=(y : Int):=by omega
      have g1 : (0 : Int)≤(d : Int):=by omega
      have g2 : (d : Int)≤9:=by omega
      have g3 : (0 : Int)≤(y : Int):=by omega
      have g4 : (y : Int)<1000000000:=by omega
      have HDD:=Lib.hid hd
      have HYY:=Lib.hid hy
      clear hd hy
      have hq : (i : Int)+1<(m : Int)∨(¬ (i : Int)+1<(m : Int)∧0<(x : Int)):=by omega
      clear hgo hxl
      have HN1 : Hid (b8 (lowd n (9 * i + (k+1)))=b8 (lowd n (9 * i+k))++[.int .u8 (48 + (d : Int))]):=Lib.hid (by
       have hd:=HDD.out
       have h2:=hdg.out (by omega)
       rw [← Nat.add_assoc,lowd_succ,b8_append,← h2,← hd,b8_digit d (by omega)])
      have HN2 : Hid (.int .u32 (y : Int)=Value.int .u32 (wleft n i (k+1) : Nat)):=Lib.hid (by rw [← hsu.out,HYY.out])
      have HN3 : Hid (i+1=m→k+1=0∨0<n / 10 ^ (9 * i + (k+1) - 1)):=Lib.hid (fun h=>.inr (by
       rw [show 9 * i + (k+1) - 1=9 * i+k by omega,← hla.out h]
       omega))
      have hown:=HOW.out
      clear HDD HYY hsu hla hdg hpre
      rcases hq with hq | ⟨hq,hx3⟩
      ·go_wp2_with (at_builtin; refine append_at (w0:=w) w.heap.size rfl (.tmp 37) (.tmp 42) 187 5 _ 1 1 rfl Tryz.underlying187 info_u8 rfl (by omega) (by omega) _ (9 * i+k) 1 (b8 (lowd n (9 * i+k))) [.int .u8 (48 + (d : Int))] rfl wr.heap.size rfl (by omega) rfl (by simp [Value.oneCell']) (hown.alloc _) (box_at _ _ rfl) bel (by (try simp)<;>omega) (by omega) ?_; intro v1 w4 hown4 hb4 hg4; clear hown)
       rw [← HN1.out] at hown4
       go_wp2
       go_roundw
       case rel=>exact ⟨k+1,by omega,by go_num,HN2.out,hown4,HN3,hb4⟩
       case measure=>simp [intOf]; omega
      ·have hx4 : 0<x:=by omega
       clear hx3
       go_wp2_with (at_builtin; refine append_at (w0:=w) w.heap.size rfl (.tmp 37) (.tmp 42) 187 5 _ 1 1 rfl Tryz.underlying187 info_u8 rfl (by omega) (by omega) _ (9 * i+k) 1 (b8 (lowd n (9 * i+k))) [.int .u8 (48 + (d : Int))] rfl wr.heap.size rfl (by omega) rfl (by simp [Value.oneCell']) (hown.alloc _) (box_at _ _ rfl) bel (by (try simp)<;>omega) (by omega) ?_; intro v1 w4 hown4 hb4 hg4; clear hown)
       rw [← HN1.out] at hown4
       go_wp2
       go_roundw
       case rel=>exact ⟨k+1,by omega,by go_num,HN2.out,hown4,HN3,hb4⟩
       case measure=>simp [intOf]; omega
     ·have hout : 9≤k∨(i+1=m∧x=0):=by omega
      have hfin : (i+1<m→9 * i+k=9 * (i+1))∧(i+1=m→(lowd n (9 * i+k)).reverse=decDigits n):=by
       refine ⟨fun h=>by omega,fun h=>lowd_text _ n h0 ?_ ?_⟩
       ·rcases hout with h9 | ⟨_,hx00⟩
        ·rw [show 9 * i+k=9 * i+9 by omega]
         exact HLT.out i h
        ·have h2:=hla.out h
         rw [hx00] at h2
         have:=Nat.div_eq_zero_iff.1 h2.symm
         rcases this with h3 | h3
         ·exact absurd h3 (Nat.ne_of_gt (Nat.pow_pos (by omega)))
         ·exact h3
       ·rcases hpre.out h with h1 | h1
        ·subst h1
         rcases hout with h9 | ⟨_,hx00⟩
         ·omega
         ·have:=HLP.out i h
          rw [← HX.out] at this
          omega
        ·exact .inr h1
      have HREL : Hid ((i+1<m→lowd n (9 * i+k)=lowd n (9 * (i+1)))∧(i+1=m→(lowd n (9 * i+k)).reverse=decDigits n)):=Lib.hid ⟨fun h=>by rw [hfin.1 h],hfin.2⟩
      have HOW2 : Hid (wr.ownsRow w.heap.size 5 1 u3 (lowd n (9 * i+k)).length (b8 (lowd n (9 * i+k)))):=Lib.hid (by rw [lowd_length]; exact HOW.out)
      have hle : (lowd n (9 * i+k)).length≤9 * (i+1):=by rw [lowd_length]; omega
      clear hfin hpre hla hsu hdg HX HOW hgo hxl
      rcases hout with h9 | ⟨h1,h2⟩
      ·have hk9 : ¬ (k : Int)<9:=by omega
       generalize lowd n (9 * i+k)=ys at *
       go_wp2
       go_roundw
       case rel=>exact ⟨i+1,ys,by omega,by go_num,HOW2.out,HREL,hle,hb⟩
       case measure=>simp [intOf]; omega
      ·subst h2
       by_cases hk9 : (k : Int)<9
       ·have hq : ¬ (i : Int)+1<(m : Int):=by omega
        generalize lowd n (9 * i+k)=ys at *
        go_wp2
        go_roundw
        case rel=>exact ⟨i+1,ys,by omega,by go_num,HOW2.out,HREL,hle,hb⟩
        case measure=>simp [intOf]; omega
       ·generalize lowd n (9 * i+k)=ys at *
        go_wp2
        go_roundw
        case rel=>exact ⟨i+1,ys,by omega,by go_num,HOW2.out,HREL,hle,hb⟩
        case measure=>simp [intOf]; omega
   ·obtain rfl : i=m:=by omega
    have hrev:=hx.out.2 rfl
    have hL0 : 0<xs.length:=by
     rcases Nat.eq_zero_or_pos xs.length with h1 | h1
     ·rw [List.length_eq_zero_iff.1 h1] at hrev
      exact absurd hrev.symm (decDigits_ne n)
     ·exact h1
    obtain ⟨g,cap1,hu,hg1,hg2⟩:=hown.form hL0
    subst hu
    have HO : Hid (wr.ownsRow w.heap.size 5 1 (.slice (some ⟨g,0,none⟩) xs.length cap1) xs.length (b8 (swapd xs 0))):=Lib.hid (by rw [swapd_zero]; exact hown)
    have HREV:=Lib.hid (dec_of_rev hrev)
    have HSW:=Lib.hid (fun j (h : 2 * j+1<xs.length)=>(⟨swapd_left h,swapd_right h,swapd_step h⟩ : _∧_∧_))
    have HSE:=Lib.hid (fun j (h : xs.length≤2 * j+1)=>swapd_end xs j h)
    have HLE : Hid (xs.reverse.length=xs.length):=Lib.hid List.length_reverse
    clear hown hx hrev HC HLP HLL HLT
    have hl1 : (0 : Int)<(xs.length : Int):=by omega
    have hl2 : (xs.length : Int)≤9000000:=by omega
    generalize xs.length=L at *
    go_wp2
    go_loopw [7,8] (fun av cv wx=>∃ j q : Nat,j+q+1=L∧j≤q+1∧av=.int .i64 j∧cv=.int .i64 q∧Hid (wx.ownsRow w.heap.size 5 1 (.slice (some ⟨g,0,none⟩) L cap1) L (b8 (swapd xs j)))∧Below w.heap.size w wx) (fun av _ _=>L - (intOf av).toNat)
    case atStart=>exact ⟨0,L - 1,by omega,by omega,rfl,by congr 1; omega,HO,hb⟩
    case round =>
     obtain ⟨j,q,hjq,hle,rfl,rfl,hown,hb⟩:=hrel
     have hsz:=hb.size
     by_cases hlt : j<q
     ·obtain ⟨s1,s2,s3⟩:=HSW.out j (by omega)
      rw [show L - 1 - j=q by omega] at s2 s3
      have c1 : wr.cell? ⟨g,j,none⟩=some (.int .u8 ((xs.getD j 0).toNat : Nat)):=(hown.out.cellAt j (by omega)).trans (b8_get s1)
      have c2 : wr.cell? ⟨g,q,none⟩=some (.int .u8 ((xs.getD q 0).toNat : Nat)):=(hown.out.cellAt q (by omega)).trans (b8_get s2)
      have f1:=hown.out.frozenAt j
      have f2:=hown.out.frozenAt q
      have HST : Hid (((wr.setCell ⟨g,j,none⟩ (.int .u8 ((xs.getD q 0).toNat : Nat))).setCell ⟨g,q,none⟩ (.int .u8 ((xs.getD j 0).toNat : Nat))).ownsRow w.heap.size 5 1 (.slice (some ⟨g,0,none⟩) L cap1) L (b8 (swapd xs (j+1)))):=Lib.hid (by
       rw [← s3,b8_set,b8_set]
       exact (World.ownsRow.stored (World.ownsRow.stored hown.out _ _).1 _ _).1)
      clear s1 s2 s3 hown HO
      have hj0 : (0 : Int)≤(j : Int):=by omega
      have hq0 : (0 : Int)≤(q : Int):=by omega
      have hjq2 : (j : Int)<(q : Int):=by omega
      have hjL : (j : Int)<(L : Int):=by omega
      have hqL : (q : Int)<(L : Int):=by omega
      generalize (xs.getD j 0).toNat=bj at *
      generalize (xs.getD q 0).toNat=bq at *
      go_wp2_with fail
      go_region
      have HB2 : Below w.heap.size w (((wr.setCell ⟨g,j,none⟩ (.int .u8 (bq : Nat))).setCell ⟨g,q,none⟩ (.int .u8 (bj : Nat))).drew):=bd (Below.setCell (Below.setCell hb hg1 _) hg1 _)
      go_wp2
      go_roundw
      case rel=>exact ⟨j+1,q - 1,by omega,by omega,by go_num,by congr 1; omega,HST,HB2⟩
      case measure=>simp [intOf]; omega
     ·have hend:=HSE.out j (by omega)
      have hcv : (convert 187 9 (.slice (some ⟨g,0,none⟩) L cap1)).run Tryz.prog wr=.ok (.string (dec n)) wr:=by
       have h1:=run_convert_bytes_back (P:=Tryz.prog) wr 187 9 5 ⟨g,0,none⟩ cap1 xs.reverse Tryz.underlying187 Tryz.underlying5 Tryz.underlying9 (fun r hr=>by
        rw [HLE.out] at hr
        have h2:=hown.out.cellAt r (by omega)
        rw [hend] at h2
        have h3 : (⟨g,0,none⟩ : Addr).add r=⟨g,r,none⟩:=by rw [Addr.add_mid,Nat.zero_add]
        rw [h3,h2,b8_get (List.getElem?_eq_getElem _)])
       rw [HLE.out,HREV.out] at h1
       exact h1
      have hjq2 : ¬ (j : Int)<(q : Int):=by omega
      clear hown HO HSW HSE
      go_wp2
      go_ret
      exact ⟨rfl,bel⟩
end Go.Proofs.YtbnbaokamccmjaaGreatDoor

/- garboardref02 and garboardref03: To: a number's text. -/
namespace Go.Proofs.YtbnbaokamccmjaaGreatDoor
open Go Go.RowKit
open Go.Lib (decDigits itoa)
theorem minus_text {i : Int} (h : decide (i<0)=true) : (⟨#[45]⟩ : ByteArray)++dec i.natAbs=itx i:=by
 have h2 : i<0:=of_decide_eq_true h
 apply ba_ext
 rw [itx,itoa,if_pos h2]
 simp [dec_toList]
theorem plus_text {i : Int} (h : decide (i<0)=false) : dec i.natAbs=itx i:=by
 have h2 : ¬ i<0:=of_decide_eq_false h
 apply ba_ext
 rw [itx,itoa,if_neg h2,dec_toList,show i.natAbs=i.toNat by omega]
set_option maxHeartbeats 1000000 in
theorem zTo_walk (z : Value) (i : Int) (w : World) (h : Zn w z i) (hm : dg i.natAbs≤1000000) :
  Calls Tryz.prog 100 #[z] w fun e w'=>e=.returned (.string (itx i))∧Below w.heap.size w w':=by
 obtain ⟨A,c,rfl,hn⟩:=h.open
 have HN:=Lib.hid (fun W hW=>rTo_walk _ i.natAbs W (Num.below (w1:=W) hn hW) (Nat.le_trans (wds_le_dg _) hm))
 have HM:=Lib.hid (fun h=>minus_text (i:=i) h)
 have HP:=Lib.hid (fun h=>plus_text (i:=i) h)
 have hsz : (dec i.natAbs).size≤1000000:=hm
 clear h hn hm
 generalize decide (i<0)=b at *
 generalize dec i.natAbs=s at *
 generalize (wds i.natAbs).length=m at *
 cases b
 ·have E:=Lib.hid (HP.out rfl)
  clear HP HM
  go_enter Tryz.func100,Tryz.ntmps100
  go_wp2_with fail
  refine (HN.out _ bel).mono ?_
  rintro e w1 ⟨rfl,g1⟩
  have B1:=bn (w:=w) bel g1
  clear g1
  go_wp2
  go_ret
  exact ⟨by rw [← E.out]; rfl,bel⟩
 ·have E:=Lib.hid (HM.out rfl)
  clear HP HM
  go_enter Tryz.func100,Tryz.ntmps100
  go_wp2_with fail
  refine (HN.out _ bel).mono ?_
  rintro e w1 ⟨rfl,g1⟩
  have B1:=bn (w:=w) bel g1
  clear g1
  go_wp2
  go_ret
  exact ⟨by rw [← E.out]; rfl,bel⟩
theorem one_text {r : Rat} (h : ((dec r.den).toList == [49])=true) : itx r.num=rtx r:=by
 have h1:=toList_beq (dec r.den) ⟨#[49]⟩
 have e : (⟨#[49]⟩ : ByteArray).toList=[49]:=by decide +kernel
 rw [e,h] at h1
 have h2 : r.den=1:=(dec_eq_one _).1 (of_decide_eq_true h1.symm)
 rw [rtx,rtoa,if_pos h2]
 rfl
theorem frac_text {r : Rat} (h : ((dec r.den).toList == [49])=false) : itx r.num++((⟨#[47]⟩ : ByteArray)++dec r.den)=rtx r:=by
 have h1:=toList_beq (dec r.den) ⟨#[49]⟩
 have e : (⟨#[49]⟩ : ByteArray).toList=[49]:=by decide +kernel
 rw [e,h] at h1
 have h2 : ¬ r.den=1:=fun e2=>of_decide_eq_false h1.symm ((dec_eq_one _).2 e2)
 apply ba_ext
 rw [rtx,rtoa,if_neg h2]
 simp [dec_toList,itx]
set_option maxHeartbeats 1000000 in
theorem qTo_walk (x : Value) (r : Rat) (w : World) (h : Qn w x r) (hr : rz r≤1000000) :
  Calls Tryz.prog 64 #[x] w fun e w'=>e=.returned (.string (rtx r))∧Below w.heap.size w w':=by
 obtain ⟨A,Ac,B,Bc,hX,hx1,hx2⟩:=h.open
 subst hX
 have hw:=rz_words r
 have HN:=Lib.hid (fun W hW=>rTo_walk _ r.den W (Num.below (w1:=W) hx2 hW) (Nat.le_trans hw.2 hr))
 have HZ:=Lib.hid (fun W hW=>zTo_walk (.agg #[.bool (decide (r.num<0)),.slice A (wds r.num.natAbs).length Ac]) r.num W ⟨_,rfl,Num.below (w1:=W) hx1 hW⟩ (Nat.le_trans (rz_num r) hr))
 have HM:=Lib.hid (fun h=>one_text (r:=r) h)
 have HP:=Lib.hid (fun h=>frac_text (r:=r) h)
 have hs1 : (dec r.den).size≤1000000:=Nat.le_trans (rz_den r) hr
 have hs2 : (itx r.num).size≤1000001:=Nat.le_trans (itx_size _) (by have:=rz_num r; omega)
 clear h hx1 hx2 hr hw
 generalize decide (r.num<0)=b at *
 generalize dec r.den=s at *
 generalize itx r.num=t at *
 generalize (wds r.num.natAbs).length=m at *
 generalize (wds r.den).length=k at *
 go_enter Tryz.func64,Tryz.ntmps64
 go_wp2_with fail
 refine (HZ.out _ bel).mono ?_
 rintro e w1 ⟨rfl,g1⟩
 have hz1 : w.heap.size<w1.heap.size:=hzs g1
 have B1:=bn (w:=w) bel g1
 have c1_0_0:=bcv g1 w.heap.size 0 (.bool b)
 have f1_0_0:=bfv g1 w.heap.size 0
 have c1_0_1:=bcv g1 w.heap.size 1 (.slice A m Ac)
 have f1_0_1:=bfv g1 w.heap.size 1
 have c1_0_2:=bcv g1 w.heap.size 2 (.slice B k Bc)
 have f1_0_2:=bfv g1 w.heap.size 2
 clear g1
 go_wp2_with fail
 refine (HN.out _ bel).mono ?_
 rintro e w2 ⟨rfl,g2⟩
 have B2:=bn (w:=w) bel g2
 clear g2
 have hsi1 : (s.size : Int)≤1000000:=by omega
 have hsi2 : (t.size : Int)≤1000001:=by omega
 cases hs : (s.toList == [49])
 ·have E:=Lib.hid (HP.out hs)
  clear HP HM
  go_wp2
  go_ret
  exact ⟨by rw [← E.out]; rfl,bel⟩
 ·have E:=Lib.hid (HM.out hs)
  clear HP HM
  go_wp2
  go_ret
  exact ⟨by rw [← E.out]; rfl,bel⟩
end Go.Proofs.YtbnbaokamccmjaaGreatDoor

/- garboardref11: a vector of the reference; a struct stored whole. -/
namespace Go.Proofs.YtbnbaokamccmjaaGreatDoor
open Go Go.RowKit
def Keep (W W' : World) : Prop:=∀ a k i,W.cell? a=some (.int k i)→W'.cell? a=some (.int k i)
theorem Keep.trans {W W1 W2 : World} (h : Keep W W1) (g : Keep W1 W2) : Keep W W2:=fun a k i e=>g a k i (h a k i e)
theorem keep_set {W : World} {p : Addr} {x : Value} (hp : W.cell? p=some x) (hx : ∀ k i,x≠.int k i) (u : Value) : Keep W (W.setCell p u):=fun a k i e=>by
 have hne : p≠a:=fun h=>by
  rw [h,e] at hp
  exact hx k i (Option.some.inj hp).symm
 exact (World.cell?_setCell_other (h:=hne) ..).trans e
theorem Num.keep {W W' : World} {v : Value} {n : Nat} (h : Num W v n) (g : Keep W W') : Num W' v n:=by
 obtain ⟨A,cap,rfl,hn,hc,hcell⟩:=h.open
 refine U32.mk hn hc fun h0=>?_
 obtain ⟨b,off,hA,hcl⟩:=hcell h0
 exact ⟨b,off,hA,fun j hj=>g _ _ _ (hcl j hj)⟩
theorem Qn.keep {W W' : World} {z : Value} {r : Rat} (h : Qn W z r) (g : Keep W W') : Qn W' z r:=by
 obtain ⟨v,d,hv,hn,hd⟩:=h
 exact ⟨v,d,hv,hn.keep g,hd.keep g⟩
theorem Bk.keep {W : World} {b : Nat} {vs : List Value} (h : Bk W b vs) {i : Nat} {x : Value} (hi : vs[i]?=some x) (hx : ∀ k j,x≠.int k j) (u : Value) : Keep W (W.setCell ⟨b,i,none⟩ u):=keep_set (h.cell i x hi) hx u
theorem keep9 {W : World} {b : Nat} (h : Bk W b [.bool false,.slice none 0 0,.slice none 0 0,.bool false,.slice none 0 0,.slice none 0 0,.bool false,.slice none 0 0,.slice none 0 0]) (u0 u1 u2 u3 u4 u5 u6 u7 u8 : Value) :
  Keep W (((((((((W.setCell ⟨b,0,none⟩ u0).setCell ⟨b,1,none⟩ u1).setCell ⟨b,2,none⟩ u2).setCell ⟨b,3,none⟩ u3).setCell ⟨b,4,none⟩ u4).setCell ⟨b,5,none⟩ u5).setCell ⟨b,6,none⟩ u6).setCell ⟨b,7,none⟩ u7).setCell ⟨b,8,none⟩ u8):=by
 have h0:=h.set 0 (by simp) u0
 have h1:=h0.set 1 (by simp) u1
 have h2:=h1.set 2 (by simp) u2
 have h3:=h2.set 3 (by simp) u3
 have h4:=h3.set 4 (by simp) u4
 have h5:=h4.set 5 (by simp) u5
 have h6:=h5.set 6 (by simp) u6
 have h7:=h6.set 7 (by simp) u7
 exact (h.keep (i:=0) rfl (by simp) u0).trans ((h0.keep (i:=1) rfl (by simp) u1).trans ((h1.keep (i:=2) rfl (by simp) u2).trans ((h2.keep (i:=3) rfl (by simp) u3).trans ((h3.keep (i:=4) rfl (by simp) u4).trans ((h4.keep (i:=5) rfl (by simp) u5).trans ((h5.keep (i:=6) rfl (by simp) u6).trans ((h6.keep (i:=7) rfl (by simp) u7).trans (h7.keep (i:=8) rfl (by simp) u8))))))))
theorem bs9 {w W : World} {b' : Nat} {u0 u1 u2 u3 u4 u5 u6 u7 u8 : Value} (h : Below w.heap.size w W) (hb : w.heap.size≤b') : Below w.heap.size w (((((((((W.setCell ⟨b',0,none⟩ u0).setCell ⟨b',1,none⟩ u1).setCell ⟨b',2,none⟩ u2).setCell ⟨b',3,none⟩ u3).setCell ⟨b',4,none⟩ u4).setCell ⟨b',5,none⟩ u5).setCell ⟨b',6,none⟩ u6).setCell ⟨b',7,none⟩ u7).setCell ⟨b',8,none⟩ u8) :=
 bs (bs (bs (bs (bs (bs (bs (bs (bs h hb) hb) hb) hb) hb) hb) hb) hb) hb
theorem Bk.c9 {w : World} {b : Nat} {a0 a1 a2 a3 a4 a5 a6 a7 a8 : Value} (h : Bk w b [a0,a1,a2,a3,a4,a5,a6,a7,a8]) :
  (w.cell? ⟨b,0,none⟩=some a0∧w.cell? ⟨b,1,none⟩=some a1∧w.cell? ⟨b,2,none⟩=some a2∧w.cell? ⟨b,3,none⟩=some a3∧w.cell? ⟨b,4,none⟩=some a4∧w.cell? ⟨b,5,none⟩=some a5∧w.cell? ⟨b,6,none⟩=some a6∧w.cell? ⟨b,7,none⟩=some a7∧w.cell? ⟨b,8,none⟩=some a8) ∧
  (w.frozen? ⟨b,0,none⟩=false∧w.frozen? ⟨b,1,none⟩=false∧w.frozen? ⟨b,2,none⟩=false∧w.frozen? ⟨b,3,none⟩=false∧w.frozen? ⟨b,4,none⟩=false∧w.frozen? ⟨b,5,none⟩=false∧w.frozen? ⟨b,6,none⟩=false∧w.frozen? ⟨b,7,none⟩=false∧w.frozen? ⟨b,8,none⟩=false) :=
 ⟨⟨h.cell 0 _ rfl,h.cell 1 _ rfl,h.cell 2 _ rfl,h.cell 3 _ rfl,h.cell 4 _ rfl,h.cell 5 _ rfl,h.cell 6 _ rfl,h.cell 7 _ rfl,h.cell 8 _ rfl⟩,h.free 0,h.free 1,h.free 2,h.free 3,h.free 4,h.free 5,h.free 6,h.free 7,h.free 8⟩
def Vn (w : World) (z : Value) (v : V3) : Prop:=∃ n1 d1 n2 d2 n3 d3,z=.agg #[.bool (decide (v.x.num<0)),n1,d1,.bool (decide (v.y.num<0)),n2,d2,.bool (decide (v.z.num<0)),n3,d3] ∧
 Qn w (.agg #[.bool (decide (v.x.num<0)),n1,d1]) v.x∧Qn w (.agg #[.bool (decide (v.y.num<0)),n2,d2]) v.y∧Qn w (.agg #[.bool (decide (v.z.num<0)),n3,d3]) v.z
theorem Vn.below {w w1 : World} {z : Value} {v : V3} (h : Vn w z v) (hb : Below w.heap.size w w1) : Vn w1 z v:=by
 obtain ⟨n1,d1,n2,d2,n3,d3,hz,a,b,c⟩:=h
 exact ⟨n1,d1,n2,d2,n3,d3,hz,a.below hb,b.below hb,c.below hb⟩
theorem Qn.parts {w : World} {b : Bool} {n d : Value} {r : Rat} (h : Qn w (.agg #[.bool b,n,d]) r) : ∃ A a B c,n=.slice A (wds r.num.natAbs).length a∧d=.slice B (wds r.den).length c:=by
 obtain ⟨A,a,B,c,hz,_⟩:=h.open
 simp only [Value.agg.injEq,Array.mk.injEq,List.cons.injEq] at hz
 exact ⟨A,a,B,c,hz.2.1,hz.2.2.1⟩
theorem Vn.open {w : World} {z : Value} {v : V3} (h : Vn w z v) : ∃ A1 a1 B1 b1 A2 a2 B2 b2 A3 a3 B3 b3,
  z=.agg #[.bool (decide (v.x.num<0)),.slice A1 (wds v.x.num.natAbs).length a1,.slice B1 (wds v.x.den).length b1,.bool (decide (v.y.num<0)),.slice A2 (wds v.y.num.natAbs).length a2,.slice B2 (wds v.y.den).length b2,.bool (decide (v.z.num<0)),.slice A3 (wds v.z.num.natAbs).length a3,.slice B3 (wds v.z.den).length b3] ∧
  Qn w (.agg #[.bool (decide (v.x.num<0)),.slice A1 (wds v.x.num.natAbs).length a1,.slice B1 (wds v.x.den).length b1]) v.x∧Qn w (.agg #[.bool (decide (v.y.num<0)),.slice A2 (wds v.y.num.natAbs).length a2,.slice B2 (wds v.y.den).length b2]) v.y∧Qn w (.agg #[.bool (decide (v.z.num<0)),.slice A3 (wds v.z.num.natAbs).length a3,.slice B3 (wds v.z.den).length b3]) v.z:=by
 obtain ⟨n1,d1,n2,d2,n3,d3,rfl,a,b,c⟩:=h
 obtain ⟨A1,a1,B1,b1,rfl,rfl⟩:=a.parts
 obtain ⟨A2,a2,B2,b2,rfl,rfl⟩:=b.parts
 obtain ⟨A3,a3,B3,b3,rfl,rfl⟩:=c.parts
 exact ⟨A1,a1,B1,b1,A2,a2,B2,b2,A3,a3,B3,b3,rfl,a,b,c⟩
theorem vn_mk {w : World} {n1 d1 n2 d2 n3 d3 : Value} {x y z : Rat} (a : Qn w (.agg #[.bool (decide (x.num<0)),n1,d1]) x) (b : Qn w (.agg #[.bool (decide (y.num<0)),n2,d2]) y) (c : Qn w (.agg #[.bool (decide (z.num<0)),n3,d3]) z) : Vn w (.agg #[.bool (decide (x.num<0)),n1,d1,.bool (decide (y.num<0)),n2,d2,.bool (decide (z.num<0)),n3,d3]) ⟨x,y,z⟩ :=
 ⟨n1,d1,n2,d2,n3,d3,rfl,a,b,c⟩
theorem r_below_cells {B b : Nat} {a : World} (hb : B≤b) : ∀ (vs : List Value) (o : Nat) {w : World},Below B a w→Below B a (w.setCells b o vs)
 | [],_,_,h=>h
 | v :: r,o,_,h=>r_below_cells hb r (o+1) (h.setCell (p:=⟨b,o,none⟩) hb v)
section
variable {P : Program} {ops : Array Oper} {o : Oper} {a : Act} {K : Act→World→Prop} {Q : Exit→Act→World→Prop} {E : Prop}
theorem stored_row {w0 X : World} {B b : Nat} {vs cs : List Value} (hb : Bk X b vs) (hl : cs.length=vs.length) (hn : ∀ k i,(Value.int k i) ∉ vs) (HB : Below B w0 X) (hB : B≤b) :
  Bk (X.setCells b 0 cs) b cs∧Below B w0 (X.setCells b 0 cs)∧Keep X (X.setCells b 0 cs)∧(∀ c o v,c≠b→X.cell? ⟨c,o,none⟩=some v→(X.setCells b 0 cs).cell? ⟨c,o,none⟩=some v):=by
 have hth : X.there b 0 cs.length:=fun j hj=>by
  have hj2 : j<vs.length:=by omega
  rw [Nat.zero_add]
  exact ⟨by rw [hb.cell j _ (List.getElem?_eq_getElem hj2)]; rfl,hb.free j⟩
 refine ⟨⟨Nat.lt_of_lt_of_le hb.lt (r_below_cells (B:=0) (Nat.zero_le b) cs 0 (Below.refl 0 X)).size,fun j v hv=>?_,fun j=>?_⟩,r_below_cells hB cs 0 HB,fun p k i hp=>?_,fun c q v hc hv=>?_⟩
 ·have:=World.rangeAt_setCells_same X b 0 cs hth j v hv
  rwa [Nat.zero_add] at this
 ·rw [World.frozen?_setCells]
  exact hb.free j
 ·rw [World.cell?_setCells_out b cs 0 X p (fun h1 h2=>?_)]
  ·exact hp
  ·right
   rcases Nat.lt_or_ge p.off cs.length with h3 | h3
   ·exfalso
    have hs:=World.cell?_spot hp
    obtain ⟨pb,po,ps⟩:=p
    simp only at h1 hs h3
    subst h1 hs
    rw [hb.cell po _ (List.getElem?_eq_getElem (by omega))] at hp
    exact hn k i (by rw [← Option.some.inj hp]; exact List.getElem_mem _)
   ·rw [Nat.zero_add]
    exact h3
 ·rw [World.cell?_setCells_out b cs 0 X ⟨c,q,none⟩ (fun h1 _=>absurd h1 hc)]
  exact hv
theorem step_store_row {w0 X : World} {B b : Nat} {vs cs : List Value} (hgd : o.guard=none) (ty : TypeId) (x y : Operand) (ho : o.op=.store ty x y)
  (hx : a.eval x=.pointer (some ⟨b,0,none⟩)) (hy : a.eval y=.agg cs.toArray) (hb : Bk X b vs) (hl : cs.length=vs.length) (hn : ∀ k i,(Value.int k i) ∉ vs) (h1 : cs.all (·.oneCell')=true)
  (hi : (P.info? ty).map (·.size)=some cs.length) (HB : Below B w0 X) (hB : B≤b)
  (h : ∀ X',Bk X' b cs→Below B w0 X'→Keep X X'→(∀ c o v,c≠b→X.cell? ⟨c,o,none⟩=some v→X'.cell? ⟨c,o,none⟩=some v)→K (a.put o.dst undef) X') :
  if Region.wanted o (yielded ops a.tmps)=true then Oper.wp P o a X K Q else E:=by
 have hw : Region.wanted o (yielded ops a.tmps)=true:=by simp [Region.wanted,hgd]
 rw [if_pos hw]
 obtain ⟨k1,k2,k3,k4⟩:=stored_row hb hl hn HB hB
 have hth : X.there b 0 cs.toArray.size:=fun j hj=>by
  have hj2 : j<vs.length:=by simp at hj; omega
  rw [Nat.zero_add]
  exact ⟨by rw [hb.cell j _ (List.getElem?_eq_getElem hj2)]; rfl,hb.free j⟩
 refine wp_store_mid ty x y ho b 0 cs.toArray hx hy hth (by simpa using hi) (by simpa using h1) ?_
 exact h _ k1 k2 k3 k4
end
end Go.Proofs.YtbnbaokamccmjaaGreatDoor

/- garboardref11: Plus, Minus. -/
namespace Go.Proofs.YtbnbaokamccmjaaGreatDoor
open Go Go.RowKit
set_option maxRecDepth 100000 in
set_option maxHeartbeats 4000000 in
theorem wMinus_walk (ux uy : Value) (x : V3) (y : V3) (w : World) (hx : Vn w ux x) (hy : Vn w uy y) (bbx : x.le 1000000) (bby : y.le 1000000) :
  Calls Tryz.prog 62 #[ux,uy] w (Ret fun v' w'=>Vn w' v' (x.sub y)∧Below w.heap.size w w'):=by
 obtain ⟨Pxx,pxx,Dxx,dxx,Pxy,pxy,Dxy,dxy,Pxz,pxz,Dxz,dxz,hzx,hxx,hxy,hxz⟩:=hx.open
 subst hzx
 clear hx
 obtain ⟨txx,txy,txz⟩:=bbx
 obtain ⟨sxx,esxx⟩ : ∃ b,b=decide (x.x.num<0):=⟨_,rfl⟩
 rw [← esxx] at hxx ⊢
 clear esxx
 obtain ⟨sxy,esxy⟩ : ∃ b,b=decide (x.y.num<0):=⟨_,rfl⟩
 rw [← esxy] at hxy ⊢
 clear esxy
 obtain ⟨sxz,esxz⟩ : ∃ b,b=decide (x.z.num<0):=⟨_,rfl⟩
 rw [← esxz] at hxz ⊢
 clear esxz
 obtain ⟨Pyx,pyx,Dyx,dyx,Pyy,pyy,Dyy,dyy,Pyz,pyz,Dyz,dyz,hzy,hyx,hyy,hyz⟩:=hy.open
 subst hzy
 clear hy
 obtain ⟨tyx,tyy,tyz⟩:=bby
 obtain ⟨syx,esyx⟩ : ∃ b,b=decide (y.x.num<0):=⟨_,rfl⟩
 rw [← esyx] at hyx ⊢
 clear esyx
 obtain ⟨syy,esyy⟩ : ∃ b,b=decide (y.y.num<0):=⟨_,rfl⟩
 rw [← esyy] at hyy ⊢
 clear esyy
 obtain ⟨syz,esyz⟩ : ∃ b,b=decide (y.z.num<0):=⟨_,rfl⟩
 rw [← esyz] at hyz ⊢
 clear esyz
 have z0 : rz (x.x - y.x)≤2000001:=rz_sub_le txx tyx (by omega)
 have z1 : rz (x.y - y.y)≤2000001:=rz_sub_le txy tyy (by omega)
 have z2 : rz (x.z - y.z)≤2000001:=rz_sub_le txz tyz (by omega)
 have HC0 : Hid (∀ u v W,Qn W u x.x→Qn W v y.x→Calls Tryz.prog 98 #[u,v] W (Ret fun v' w'=>Qn w' v' (x.x - y.x)∧Below W.heap.size W w')):=Lib.hid (fun u v W h g=>qSub_walk u v _ _ W h g (Nat.le_trans txx (by omega)) (Nat.le_trans tyx (by omega)))
 have HC1 : Hid (∀ u v W,Qn W u x.y→Qn W v y.y→Calls Tryz.prog 98 #[u,v] W (Ret fun v' w'=>Qn w' v' (x.y - y.y)∧Below W.heap.size W w')):=Lib.hid (fun u v W h g=>qSub_walk u v _ _ W h g (Nat.le_trans txy (by omega)) (Nat.le_trans tyy (by omega)))
 have HC2 : Hid (∀ u v W,Qn W u x.z→Qn W v y.z→Calls Tryz.prog 98 #[u,v] W (Ret fun v' w'=>Qn w' v' (x.z - y.z)∧Below W.heap.size W w')):=Lib.hid (fun u v W h g=>qSub_walk u v _ _ W h g (Nat.le_trans txz (by omega)) (Nat.le_trans tyz (by omega)))
 have hres : (x.sub y)=⟨(x.x - y.x),(x.y - y.y),(x.z - y.z)⟩:=rfl
 rw [hres]
 clear hres
 clear z2 z1 z0 txx txy txz tyx tyy tyz
 generalize (x.z - y.z)=q2 at *
 generalize (x.y - y.y)=q1 at *
 generalize (x.x - y.x)=q0 at *
 go_enter Tryz.func62,Tryz.ntmps62
 go_wp2
 have BKx : Bk (((w.alloc (.cells #[.bool sxx,.slice Pxx (wds x.x.num.natAbs).length pxx,.slice Dxx (wds x.x.den).length dxx,.bool sxy,.slice Pxy (wds x.y.num.natAbs).length pxy,.slice Dxy (wds x.y.den).length dxy,.bool sxz,.slice Pxz (wds x.z.num.natAbs).length pxz,.slice Dxz (wds x.z.den).length dxz] 86)).alloc (.cells #[.bool syx,.slice Pyx (wds y.x.num.natAbs).length pyx,.slice Dyx (wds y.x.den).length dyx,.bool syy,.slice Pyy (wds y.y.num.natAbs).length pyy,.slice Dyy (wds y.y.den).length dyy,.bool syz,.slice Pyz (wds y.z.num.natAbs).length pyz,.slice Dyz (wds y.z.den).length dyz] 86)).alloc (.cells #[.bool false,.slice none 0 0,.slice none 0 0,.bool false,.slice none 0 0,.slice none 0 0,.bool false,.slice none 0 0,.slice none 0 0] 86)) (w.heap.size) [.bool sxx,.slice Pxx (wds x.x.num.natAbs).length pxx,.slice Dxx (wds x.x.den).length dxx,.bool sxy,.slice Pxy (wds x.y.num.natAbs).length pxy,.slice Dxy (wds x.y.den).length dxy,.bool sxz,.slice Pxz (wds x.z.num.natAbs).length pxz,.slice Dxz (wds x.z.den).length dxz]:=bkk
 have BKy : Bk (((w.alloc (.cells #[.bool sxx,.slice Pxx (wds x.x.num.natAbs).length pxx,.slice Dxx (wds x.x.den).length dxx,.bool sxy,.slice Pxy (wds x.y.num.natAbs).length pxy,.slice Dxy (wds x.y.den).length dxy,.bool sxz,.slice Pxz (wds x.z.num.natAbs).length pxz,.slice Dxz (wds x.z.den).length dxz] 86)).alloc (.cells #[.bool syx,.slice Pyx (wds y.x.num.natAbs).length pyx,.slice Dyx (wds y.x.den).length dyx,.bool syy,.slice Pyy (wds y.y.num.natAbs).length pyy,.slice Dyy (wds y.y.den).length dyy,.bool syz,.slice Pyz (wds y.z.num.natAbs).length pyz,.slice Dyz (wds y.z.den).length dyz] 86)).alloc (.cells #[.bool false,.slice none 0 0,.slice none 0 0,.bool false,.slice none 0 0,.slice none 0 0,.bool false,.slice none 0 0,.slice none 0 0] 86)) (w.heap.size+1) [.bool syx,.slice Pyx (wds y.x.num.natAbs).length pyx,.slice Dyx (wds y.x.den).length dyx,.bool syy,.slice Pyy (wds y.y.num.natAbs).length pyy,.slice Dyy (wds y.y.den).length dyy,.bool syz,.slice Pyz (wds y.z.num.natAbs).length pyz,.slice Dyz (wds y.z.den).length dyz]:=bkk
 have BZ : Bk (((w.alloc (.cells #[.bool sxx,.slice Pxx (wds x.x.num.natAbs).length pxx,.slice Dxx (wds x.x.den).length dxx,.bool sxy,.slice Pxy (wds x.y.num.natAbs).length pxy,.slice Dxy (wds x.y.den).length dxy,.bool sxz,.slice Pxz (wds x.z.num.natAbs).length pxz,.slice Dxz (wds x.z.den).length dxz] 86)).alloc (.cells #[.bool syx,.slice Pyx (wds y.x.num.natAbs).length pyx,.slice Dyx (wds y.x.den).length dyx,.bool syy,.slice Pyy (wds y.y.num.natAbs).length pyy,.slice Dyy (wds y.y.den).length dyy,.bool syz,.slice Pyz (wds y.z.num.natAbs).length pyz,.slice Dyz (wds y.z.den).length dyz] 86)).alloc (.cells #[.bool false,.slice none 0 0,.slice none 0 0,.bool false,.slice none 0 0,.slice none 0 0,.bool false,.slice none 0 0,.slice none 0 0] 86)) (w.heap.size+1+1) [.bool false,.slice none 0 0,.slice none 0 0,.bool false,.slice none 0 0,.slice none 0 0,.bool false,.slice none 0 0,.slice none 0 0]:=bkk
 have BB : Below w.heap.size w (((w.alloc (.cells #[.bool sxx,.slice Pxx (wds x.x.num.natAbs).length pxx,.slice Dxx (wds x.x.den).length dxx,.bool sxy,.slice Pxy (wds x.y.num.natAbs).length pxy,.slice Dxy (wds x.y.den).length dxy,.bool sxz,.slice Pxz (wds x.z.num.natAbs).length pxz,.slice Dxz (wds x.z.den).length dxz] 86)).alloc (.cells #[.bool syx,.slice Pyx (wds y.x.num.natAbs).length pyx,.slice Dyx (wds y.x.den).length dyx,.bool syy,.slice Pyy (wds y.y.num.natAbs).length pyy,.slice Dyy (wds y.y.den).length dyy,.bool syz,.slice Pyz (wds y.z.num.natAbs).length pyz,.slice Dyz (wds y.z.den).length dyz] 86)).alloc (.cells #[.bool false,.slice none 0 0,.slice none 0 0,.bool false,.slice none 0 0,.slice none 0 0,.bool false,.slice none 0 0,.slice none 0 0] 86)):=bel
 generalize hWe : ((w.alloc (.cells #[.bool sxx,.slice Pxx (wds x.x.num.natAbs).length pxx,.slice Dxx (wds x.x.den).length dxx,.bool sxy,.slice Pxy (wds x.y.num.natAbs).length pxy,.slice Dxy (wds x.y.den).length dxy,.bool sxz,.slice Pxz (wds x.z.num.natAbs).length pxz,.slice Dxz (wds x.z.den).length dxz] 86)).alloc (.cells #[.bool syx,.slice Pyx (wds y.x.num.natAbs).length pyx,.slice Dyx (wds y.x.den).length dyx,.bool syy,.slice Pyy (wds y.y.num.natAbs).length pyy,.slice Dyy (wds y.y.den).length dyy,.bool syz,.slice Pyz (wds y.z.num.natAbs).length pyz,.slice Dyz (wds y.z.den).length dyz] 86)).alloc (.cells #[.bool false,.slice none 0 0,.slice none 0 0,.bool false,.slice none 0 0,.slice none 0 0,.bool false,.slice none 0 0,.slice none 0 0] 86)=W at *
 clear hWe
 obtain ⟨⟨xc0,xc1,xc2,xc3,xc4,xc5,xc6,xc7,xc8⟩, -⟩:=BKx.c9
 obtain ⟨⟨yc0,yc1,yc2,yc3,yc4,yc5,yc6,yc7,yc8⟩, -⟩:=BKy.c9
 clear BKx BKy
 refine wp_region_held_drew (S:=fun w'=>w'.cell? ⟨w.heap.size,0,none⟩=some (.bool sxx)∧w'.cell? ⟨w.heap.size,1,none⟩=some (.slice Pxx (wds x.x.num.natAbs).length pxx)∧w'.cell? ⟨w.heap.size,2,none⟩=some (.slice Dxx (wds x.x.den).length dxx)∧w'.cell? ⟨w.heap.size,3,none⟩=some (.bool sxy)∧w'.cell? ⟨w.heap.size,4,none⟩=some (.slice Pxy (wds x.y.num.natAbs).length pxy)∧w'.cell? ⟨w.heap.size,5,none⟩=some (.slice Dxy (wds x.y.den).length dxy)∧w'.cell? ⟨w.heap.size,6,none⟩=some (.bool sxz)∧w'.cell? ⟨w.heap.size,7,none⟩=some (.slice Pxz (wds x.z.num.natAbs).length pxz)∧w'.cell? ⟨w.heap.size,8,none⟩=some (.slice Dxz (wds x.z.den).length dxz)∧w'.cell? ⟨w.heap.size+1,0,none⟩=some (.bool syx)∧w'.cell? ⟨w.heap.size+1,1,none⟩=some (.slice Pyx (wds y.x.num.natAbs).length pyx)∧w'.cell? ⟨w.heap.size+1,2,none⟩=some (.slice Dyx (wds y.x.den).length dyx)∧w'.cell? ⟨w.heap.size+1,3,none⟩=some (.bool syy)∧w'.cell? ⟨w.heap.size+1,4,none⟩=some (.slice Pyy (wds y.y.num.natAbs).length pyy)∧w'.cell? ⟨w.heap.size+1,5,none⟩=some (.slice Dyy (wds y.y.den).length dyy)∧w'.cell? ⟨w.heap.size+1,6,none⟩=some (.bool syz)∧w'.cell? ⟨w.heap.size+1,7,none⟩=some (.slice Pyz (wds y.z.num.natAbs).length pyz)∧w'.cell? ⟨w.heap.size+1,8,none⟩=some (.slice Dyz (wds y.z.den).length dyz)∧Below w.heap.size w w') (by kernel_rfl) ?_ (fun hHeld=>?_)
 ·exact ⟨bc (bd (br _)) xc0,bc (bd (br _)) xc1,bc (bd (br _)) xc2,bc (bd (br _)) xc3,bc (bd (br _)) xc4,bc (bd (br _)) xc5,bc (bd (br _)) xc6,bc (bd (br _)) xc7,bc (bd (br _)) xc8,bc (bd (br _)) yc0,bc (bd (br _)) yc1,bc (bd (br _)) yc2,bc (bd (br _)) yc3,bc (bd (br _)) yc4,bc (bd (br _)) yc5,bc (bd (br _)) yc6,bc (bd (br _)) yc7,bc (bd (br _)) yc8,bd BB⟩
 refine wtk 0 (.pointer (some ⟨w.heap.size,0,none⟩)) rfl rfl (fun w' hS=>?_) hHeld ?_
 ·(try dsimp only at hS); go_split_ands; go_simp
 try simp only [Act.put,lsx]
 refine wtk 1 (.agg #[.bool sxx,.slice Pxx (wds x.x.num.natAbs).length pxx,.slice Dxx (wds x.x.den).length dxx]) rfl rfl (fun w' hS=>?_) hHeld ?_
 ·(try dsimp only at hS); go_split_ands; go_simp
 try simp only [Act.put,lsx]
 refine wtk 2 (.pointer (some ⟨w.heap.size+1,0,none⟩)) rfl rfl (fun w' hS=>?_) hHeld ?_
 ·(try dsimp only at hS); go_split_ands; go_simp
 try simp only [Act.put,lsx]
 refine wtk 3 (.agg #[.bool syx,.slice Pyx (wds y.x.num.natAbs).length pyx,.slice Dyx (wds y.x.den).length dyx]) rfl rfl (fun w' hS=>?_) hHeld ?_
 ·(try dsimp only at hS); go_split_ands; go_simp
 try simp only [Act.put,lsx]
 refine wtk 5 (.pointer (some ⟨w.heap.size,3,none⟩)) rfl rfl (fun w' hS=>?_) hHeld ?_
 ·(try dsimp only at hS); go_split_ands; go_simp
 try simp only [Act.put,lsx]
 refine wtk 6 (.agg #[.bool sxy,.slice Pxy (wds x.y.num.natAbs).length pxy,.slice Dxy (wds x.y.den).length dxy]) rfl rfl (fun w' hS=>?_) hHeld ?_
 ·(try dsimp only at hS); go_split_ands; go_simp
 try simp only [Act.put,lsx]
 refine wtk 7 (.pointer (some ⟨w.heap.size+1,3,none⟩)) rfl rfl (fun w' hS=>?_) hHeld ?_
 ·(try dsimp only at hS); go_split_ands; go_simp
 try simp only [Act.put,lsx]
 refine wtk 8 (.agg #[.bool syy,.slice Pyy (wds y.y.num.natAbs).length pyy,.slice Dyy (wds y.y.den).length dyy]) rfl rfl (fun w' hS=>?_) hHeld ?_
 ·(try dsimp only at hS); go_split_ands; go_simp
 try simp only [Act.put,lsx]
 refine wtk 10 (.pointer (some ⟨w.heap.size,6,none⟩)) rfl rfl (fun w' hS=>?_) hHeld ?_
 ·(try dsimp only at hS); go_split_ands; go_simp
 try simp only [Act.put,lsx]
 refine wtk 11 (.agg #[.bool sxz,.slice Pxz (wds x.z.num.natAbs).length pxz,.slice Dxz (wds x.z.den).length dxz]) rfl rfl (fun w' hS=>?_) hHeld ?_
 ·(try dsimp only at hS); go_split_ands; go_simp
 try simp only [Act.put,lsx]
 refine wtk 12 (.pointer (some ⟨w.heap.size+1,6,none⟩)) rfl rfl (fun w' hS=>?_) hHeld ?_
 ·(try dsimp only at hS); go_split_ands; go_simp
 try simp only [Act.put,lsx]
 refine wtk 13 (.agg #[.bool syz,.slice Pyz (wds y.z.num.natAbs).length pyz,.slice Dyz (wds y.z.den).length dyz]) rfl rfl (fun w' hS=>?_) hHeld ?_
 ·(try dsimp only at hS); go_split_ands; go_simp
 try simp only [Act.put,lsx]
 refine wrd 4 rfl (fun K hK=>?_)
 rw [if_pos (by rfl)]
 go_wp2_with fail
 obtain ⟨s0_,s1_,s2_,s3_,s4_,s5_,s6_,s7_,s8_,s9_,s10_,s11_,s12_,s13_,s14_,s15_,s16_,s17_,s18_⟩:=hHeld
 have hL:=s18_
 have RR:=Bk.drew BZ
 refine (HC0.out _ _ _ (Qn.below hxx hL) (Qn.below hyx hL)).mono ?_
 rintro e w1 ⟨v0,rfl,r0,g⟩
 obtain ⟨A0,a0,B0,b0,hE,_⟩:=r0.open
 subst hE
 have R1:=Bk.below RR g
 refine hK.out _ _ ⟨bc g s0_,bc g s1_,bc g s2_,bc g s3_,bc g s4_,bc g s5_,bc g s6_,bc g s7_,bc g s8_,bc g s9_,bc g s10_,bc g s11_,bc g s12_,bc g s13_,bc g s14_,bc g s15_,bc g s16_,bc g s17_,bn s18_ g⟩ (fun hHeld=>?_)
 clear g hL RR s0_ s1_ s2_ s3_ s4_ s5_ s6_ s7_ s8_ s9_ s10_ s11_ s12_ s13_ s14_ s15_ s16_ s17_ s18_
 clear hK K
 try simp only [Act.put,lsx]
 refine wrd 9 rfl (fun K hK=>?_)
 rw [if_pos (by rfl)]
 go_wp2_with fail
 obtain ⟨s0_,s1_,s2_,s3_,s4_,s5_,s6_,s7_,s8_,s9_,s10_,s11_,s12_,s13_,s14_,s15_,s16_,s17_,s18_⟩:=hHeld
 have hL:=s18_
 have RR:=R1
 refine (HC1.out _ _ _ (Qn.below hxy hL) (Qn.below hyy hL)).mono ?_
 rintro e w2 ⟨v1,rfl,r1,g⟩
 obtain ⟨A1,a1,B1,b1,hE,_⟩:=r1.open
 subst hE
 have R2:=Bk.below RR g
 replace r0:=Qn.below r0 g
 refine hK.out _ _ ⟨bc g s0_,bc g s1_,bc g s2_,bc g s3_,bc g s4_,bc g s5_,bc g s6_,bc g s7_,bc g s8_,bc g s9_,bc g s10_,bc g s11_,bc g s12_,bc g s13_,bc g s14_,bc g s15_,bc g s16_,bc g s17_,bn s18_ g⟩ (fun hHeld=>?_)
 clear g hL RR s0_ s1_ s2_ s3_ s4_ s5_ s6_ s7_ s8_ s9_ s10_ s11_ s12_ s13_ s14_ s15_ s16_ s17_ s18_
 clear hK K
 try simp only [Act.put,lsx]
 refine wrd 14 rfl (fun K hK=>?_)
 rw [if_pos (by rfl)]
 go_wp2_with fail
 obtain ⟨s0_,s1_,s2_,s3_,s4_,s5_,s6_,s7_,s8_,s9_,s10_,s11_,s12_,s13_,s14_,s15_,s16_,s17_,s18_⟩:=hHeld
 have hL:=s18_
 have RR:=R2
 refine (HC2.out _ _ _ (Qn.below hxz hL) (Qn.below hyz hL)).mono ?_
 rintro e w3 ⟨v2,rfl,r2,g⟩
 obtain ⟨A2,a2,B2,b2,hE,_⟩:=r2.open
 subst hE
 have R3:=Bk.below RR g
 replace r0:=Qn.below r0 g
 replace r1:=Qn.below r1 g
 refine hK.out _ _ ⟨bc g s0_,bc g s1_,bc g s2_,bc g s3_,bc g s4_,bc g s5_,bc g s6_,bc g s7_,bc g s8_,bc g s9_,bc g s10_,bc g s11_,bc g s12_,bc g s13_,bc g s14_,bc g s15_,bc g s16_,bc g s17_,bn s18_ g⟩ (fun hHeld=>?_)
 clear g hL RR s0_ s1_ s2_ s3_ s4_ s5_ s6_ s7_ s8_ s9_ s10_ s11_ s12_ s13_ s14_ s15_ s16_ s17_ s18_
 clear hK K
 try simp only [Act.put,lsx]
 refine wtk 15 (.agg #[.bool (decide (q0.num<0)),.slice A0 (wds q0.num.natAbs).length a0,.slice B0 (wds q0.den).length b0,.bool (decide (q1.num<0)),.slice A1 (wds q1.num.natAbs).length a1,.slice B1 (wds q1.den).length b1,.bool (decide (q2.num<0)),.slice A2 (wds q2.num.natAbs).length a2,.slice B2 (wds q2.den).length b2]) rfl rfl (fun w' hS=>?_) hHeld ?_
 ·(try dsimp only at hS); go_split_ands; go_simp
 try simp only [Act.put,lsx]
 refine wrd 16 rfl (fun K hK=>?_)
 obtain ⟨s0_,s1_,s2_,s3_,s4_,s5_,s6_,s7_,s8_,s9_,s10_,s11_,s12_,s13_,s14_,s15_,s16_,s17_,s18_⟩:=hHeld
 refine step_store_row (w0:=w) (B:=w.heap.size) (b:=w.heap.size+1+1) (cs:=[.bool (decide (q0.num<0)),.slice A0 (wds q0.num.natAbs).length a0,.slice B0 (wds q0.den).length b0,.bool (decide (q1.num<0)),.slice A1 (wds q1.num.natAbs).length a1,.slice B1 (wds q1.den).length b1,.bool (decide (q2.num<0)),.slice A2 (wds q2.num.natAbs).length a2,.slice B2 (wds q2.den).length b2]) (by rfl) 86 (.tmp 4) (.tmp 20) (by rfl) (by rfl) (by rfl) R3 (by rfl) (by simp) (by rfl) (by kernel_rfl) s18_ (by omega) ?_
 intro W4 K4 G4 KP4 FR4
 refine hK.out _ _ ⟨FR4 _ _ _ (by omega) s0_,FR4 _ _ _ (by omega) s1_,FR4 _ _ _ (by omega) s2_,FR4 _ _ _ (by omega) s3_,FR4 _ _ _ (by omega) s4_,FR4 _ _ _ (by omega) s5_,FR4 _ _ _ (by omega) s6_,FR4 _ _ _ (by omega) s7_,FR4 _ _ _ (by omega) s8_,FR4 _ _ _ (by omega) s9_,FR4 _ _ _ (by omega) s10_,FR4 _ _ _ (by omega) s11_,FR4 _ _ _ (by omega) s12_,FR4 _ _ _ (by omega) s13_,FR4 _ _ _ (by omega) s14_,FR4 _ _ _ (by omega) s15_,FR4 _ _ _ (by omega) s16_,FR4 _ _ _ (by omega) s17_,G4⟩ (fun hHeld=>?_)
 clear hK K
 try simp only [Act.put,lsx]
 refine wpAnyH_done (by kernel_rfl) ?_ _
 clear hHeld
 obtain ⟨⟨m0,m1,m2,m3,m4,m5,m6,m7,m8⟩, -⟩:=K4.c9
 go_wp2
 refine bodyPost_ret (v:=.agg #[.bool (decide (q0.num<0)),.slice A0 (wds q0.num.natAbs).length a0,.slice B0 (wds q0.den).length b0,.bool (decide (q1.num<0)),.slice A1 (wds q1.num.natAbs).length a1,.slice B1 (wds q1.den).length b1,.bool (decide (q2.num<0)),.slice A2 (wds q2.num.natAbs).length a2,.slice B2 (wds q2.den).length b2]) (by simp [results,Tryz.results62,go_sem, *]) rfl ?_
 exact ⟨_,rfl,vn_mk (r0.keep KP4) (r1.keep KP4) (r2.keep KP4),G4⟩
end Go.Proofs.YtbnbaokamccmjaaGreatDoor

/- garboardref11: To. -/
namespace Go.Proofs.YtbnbaokamccmjaaGreatDoor
open Go Go.RowKit
set_option maxRecDepth 100000 in
set_option maxHeartbeats 4000000 in
theorem wTo_walk (ux : Value) (x : V3) (w : World) (hx : Vn w ux x) (bx : x.le 1000000) :
  Calls Tryz.prog 91 #[ux] w fun e w'=>e=.returned (VV x)∧Below w.heap.size w w':=by
 obtain ⟨Pxx,pxx,Dxx,dxx,Pxy,pxy,Dxy,dxy,Pxz,pxz,Dxz,dxz,hzx,hxx,hxy,hxz⟩:=hx.open
 subst hzx
 clear hx
 obtain ⟨t0,t1,t2⟩:=bx
 obtain ⟨sxx,esxx⟩ : ∃ b,b=decide (x.x.num<0):=⟨_,rfl⟩
 rw [← esxx] at hxx ⊢
 clear esxx
 obtain ⟨sxy,esxy⟩ : ∃ b,b=decide (x.y.num<0):=⟨_,rfl⟩
 rw [← esxy] at hxy ⊢
 clear esxy
 obtain ⟨sxz,esxz⟩ : ∃ b,b=decide (x.z.num<0):=⟨_,rfl⟩
 rw [← esxz] at hxz ⊢
 clear esxz
 have HC0 : Hid (∀ u W,Qn W u x.x→Calls Tryz.prog 64 #[u] W fun e w'=>e=.returned (.string (rtx x.x))∧Below W.heap.size W w'):=Lib.hid (fun u W h=>qTo_walk u _ W h t0)
 have HC1 : Hid (∀ u W,Qn W u x.y→Calls Tryz.prog 64 #[u] W fun e w'=>e=.returned (.string (rtx x.y))∧Below W.heap.size W w'):=Lib.hid (fun u W h=>qTo_walk u _ W h t1)
 have HC2 : Hid (∀ u W,Qn W u x.z→Calls Tryz.prog 64 #[u] W fun e w'=>e=.returned (.string (rtx x.z))∧Below W.heap.size W w'):=Lib.hid (fun u W h=>qTo_walk u _ W h t2)
 unfold VV
 clear t0 t1 t2
 generalize rtx x.x=q0 at *
 generalize rtx x.y=q1 at *
 generalize rtx x.z=q2 at *
 go_enter Tryz.func91,Tryz.ntmps91
 go_wp2
 have BKx : Bk ((w.alloc (.cells #[.bool sxx,.slice Pxx (wds x.x.num.natAbs).length pxx,.slice Dxx (wds x.x.den).length dxx,.bool sxy,.slice Pxy (wds x.y.num.natAbs).length pxy,.slice Dxy (wds x.y.den).length dxy,.bool sxz,.slice Pxz (wds x.z.num.natAbs).length pxz,.slice Dxz (wds x.z.den).length dxz] 86)).alloc (.cells #[.string ⟨#[]⟩,.string ⟨#[]⟩,.string ⟨#[]⟩] 25)) (w.heap.size) [.bool sxx,.slice Pxx (wds x.x.num.natAbs).length pxx,.slice Dxx (wds x.x.den).length dxx,.bool sxy,.slice Pxy (wds x.y.num.natAbs).length pxy,.slice Dxy (wds x.y.den).length dxy,.bool sxz,.slice Pxz (wds x.z.num.natAbs).length pxz,.slice Dxz (wds x.z.den).length dxz]:=bkk
 have BZ : Bk ((w.alloc (.cells #[.bool sxx,.slice Pxx (wds x.x.num.natAbs).length pxx,.slice Dxx (wds x.x.den).length dxx,.bool sxy,.slice Pxy (wds x.y.num.natAbs).length pxy,.slice Dxy (wds x.y.den).length dxy,.bool sxz,.slice Pxz (wds x.z.num.natAbs).length pxz,.slice Dxz (wds x.z.den).length dxz] 86)).alloc (.cells #[.string ⟨#[]⟩,.string ⟨#[]⟩,.string ⟨#[]⟩] 25)) (w.heap.size+1) [.string ⟨#[]⟩,.string ⟨#[]⟩,.string ⟨#[]⟩]:=bkk
 have BB : Below w.heap.size w ((w.alloc (.cells #[.bool sxx,.slice Pxx (wds x.x.num.natAbs).length pxx,.slice Dxx (wds x.x.den).length dxx,.bool sxy,.slice Pxy (wds x.y.num.natAbs).length pxy,.slice Dxy (wds x.y.den).length dxy,.bool sxz,.slice Pxz (wds x.z.num.natAbs).length pxz,.slice Dxz (wds x.z.den).length dxz] 86)).alloc (.cells #[.string ⟨#[]⟩,.string ⟨#[]⟩,.string ⟨#[]⟩] 25)):=bel
 generalize hWe : (w.alloc (.cells #[.bool sxx,.slice Pxx (wds x.x.num.natAbs).length pxx,.slice Dxx (wds x.x.den).length dxx,.bool sxy,.slice Pxy (wds x.y.num.natAbs).length pxy,.slice Dxy (wds x.y.den).length dxy,.bool sxz,.slice Pxz (wds x.z.num.natAbs).length pxz,.slice Dxz (wds x.z.den).length dxz] 86)).alloc (.cells #[.string ⟨#[]⟩,.string ⟨#[]⟩,.string ⟨#[]⟩] 25)=W at *
 clear hWe
 obtain ⟨⟨xc0,xc1,xc2,xc3,xc4,xc5,xc6,xc7,xc8⟩, -⟩:=BKx.c9
 clear BKx
 refine wp_region_held_drew (S:=fun w'=>w'.cell? ⟨w.heap.size,0,none⟩=some (.bool sxx)∧w'.cell? ⟨w.heap.size,1,none⟩=some (.slice Pxx (wds x.x.num.natAbs).length pxx)∧w'.cell? ⟨w.heap.size,2,none⟩=some (.slice Dxx (wds x.x.den).length dxx)∧w'.cell? ⟨w.heap.size,3,none⟩=some (.bool sxy)∧w'.cell? ⟨w.heap.size,4,none⟩=some (.slice Pxy (wds x.y.num.natAbs).length pxy)∧w'.cell? ⟨w.heap.size,5,none⟩=some (.slice Dxy (wds x.y.den).length dxy)∧w'.cell? ⟨w.heap.size,6,none⟩=some (.bool sxz)∧w'.cell? ⟨w.heap.size,7,none⟩=some (.slice Pxz (wds x.z.num.natAbs).length pxz)∧w'.cell? ⟨w.heap.size,8,none⟩=some (.slice Dxz (wds x.z.den).length dxz)∧Below w.heap.size w w') (by kernel_rfl) ?_ (fun hHeld=>?_)
 ·exact ⟨bc (bd (br _)) xc0,bc (bd (br _)) xc1,bc (bd (br _)) xc2,bc (bd (br _)) xc3,bc (bd (br _)) xc4,bc (bd (br _)) xc5,bc (bd (br _)) xc6,bc (bd (br _)) xc7,bc (bd (br _)) xc8,bd BB⟩
 refine wtk 0 (.pointer (some ⟨w.heap.size,0,none⟩)) rfl rfl (fun w' hS=>?_) hHeld ?_
 ·(try dsimp only at hS); go_split_ands; go_simp
 try simp only [Act.put,lsx]
 refine wtk 1 (.agg #[.bool sxx,.slice Pxx (wds x.x.num.natAbs).length pxx,.slice Dxx (wds x.x.den).length dxx]) rfl rfl (fun w' hS=>?_) hHeld ?_
 ·(try dsimp only at hS); go_split_ands; go_simp
 try simp only [Act.put,lsx]
 refine wtk 3 (.pointer (some ⟨w.heap.size,3,none⟩)) rfl rfl (fun w' hS=>?_) hHeld ?_
 ·(try dsimp only at hS); go_split_ands; go_simp
 try simp only [Act.put,lsx]
 refine wtk 4 (.agg #[.bool sxy,.slice Pxy (wds x.y.num.natAbs).length pxy,.slice Dxy (wds x.y.den).length dxy]) rfl rfl (fun w' hS=>?_) hHeld ?_
 ·(try dsimp only at hS); go_split_ands; go_simp
 try simp only [Act.put,lsx]
 refine wtk 6 (.pointer (some ⟨w.heap.size,6,none⟩)) rfl rfl (fun w' hS=>?_) hHeld ?_
 ·(try dsimp only at hS); go_split_ands; go_simp
 try simp only [Act.put,lsx]
 refine wtk 7 (.agg #[.bool sxz,.slice Pxz (wds x.z.num.natAbs).length pxz,.slice Dxz (wds x.z.den).length dxz]) rfl rfl (fun w' hS=>?_) hHeld ?_
 ·(try dsimp only at hS); go_split_ands; go_simp
 try simp only [Act.put,lsx]
 refine wrd 2 rfl (fun K hK=>?_)
 rw [if_pos (by rfl)]
 go_wp2_with fail
 obtain ⟨s0_,s1_,s2_,s3_,s4_,s5_,s6_,s7_,s8_,s9_⟩:=hHeld
 have RR:=Bk.drew BZ
 refine (HC0.out _ _ (Qn.below hxx s9_)).mono ?_
 rintro e w1 ⟨rfl,g⟩
 have R1:=Bk.below RR g
 refine hK.out _ _ ⟨bc g s0_,bc g s1_,bc g s2_,bc g s3_,bc g s4_,bc g s5_,bc g s6_,bc g s7_,bc g s8_,bn s9_ g⟩ (fun hHeld=>?_)
 clear g RR s0_ s1_ s2_ s3_ s4_ s5_ s6_ s7_ s8_ s9_
 clear hK K
 try simp only [Act.put,lsx]
 refine wrd 5 rfl (fun K hK=>?_)
 rw [if_pos (by rfl)]
 go_wp2_with fail
 obtain ⟨s0_,s1_,s2_,s3_,s4_,s5_,s6_,s7_,s8_,s9_⟩:=hHeld
 have RR:=R1
 refine (HC1.out _ _ (Qn.below hxy s9_)).mono ?_
 rintro e w2 ⟨rfl,g⟩
 have R2:=Bk.below RR g
 refine hK.out _ _ ⟨bc g s0_,bc g s1_,bc g s2_,bc g s3_,bc g s4_,bc g s5_,bc g s6_,bc g s7_,bc g s8_,bn s9_ g⟩ (fun hHeld=>?_)
 clear g RR s0_ s1_ s2_ s3_ s4_ s5_ s6_ s7_ s8_ s9_
 clear hK K
 try simp only [Act.put,lsx]
 refine wrd 8 rfl (fun K hK=>?_)
 rw [if_pos (by rfl)]
 go_wp2_with fail
 obtain ⟨s0_,s1_,s2_,s3_,s4_,s5_,s6_,s7_,s8_,s9_⟩:=hHeld
 have RR:=R2
 refine (HC2.out _ _ (Qn.below hxz s9_)).mono ?_
 rintro e w3 ⟨rfl,g⟩
 have R3:=Bk.below RR g
 refine hK.out _ _ ⟨bc g s0_,bc g s1_,bc g s2_,bc g s3_,bc g s4_,bc g s5_,bc g s6_,bc g s7_,bc g s8_,bn s9_ g⟩ (fun hHeld=>?_)
 clear g RR s0_ s1_ s2_ s3_ s4_ s5_ s6_ s7_ s8_ s9_
 clear hK K
 try simp only [Act.put,lsx]
 refine wtk 9 (.agg #[.string q0,.string q1,.string q2]) rfl rfl (fun w' hS=>?_) hHeld ?_
 ·(try dsimp only at hS); go_split_ands; go_simp
 try simp only [Act.put,lsx]
 refine wrd 10 rfl (fun K hK=>?_)
 obtain ⟨s0_,s1_,s2_,s3_,s4_,s5_,s6_,s7_,s8_,s9_⟩:=hHeld
 refine step_store_row (w0:=w) (B:=w.heap.size) (b:=w.heap.size+1) (cs:=[.string q0,.string q1,.string q2]) (by rfl) 25 (.tmp 2) (.tmp 12) (by rfl) (by rfl) (by rfl) R3 (by rfl) (by simp) (by rfl) (by kernel_rfl) s9_ (by omega) ?_
 intro W4 K4 G4 KP4 FR4
 refine hK.out _ _ ⟨FR4 _ _ _ (by omega) s0_,FR4 _ _ _ (by omega) s1_,FR4 _ _ _ (by omega) s2_,FR4 _ _ _ (by omega) s3_,FR4 _ _ _ (by omega) s4_,FR4 _ _ _ (by omega) s5_,FR4 _ _ _ (by omega) s6_,FR4 _ _ _ (by omega) s7_,FR4 _ _ _ (by omega) s8_,G4⟩ (fun hHeld=>?_)
 clear hK K
 try simp only [Act.put,lsx]
 refine wpAnyH_done (by kernel_rfl) ?_ _
 clear hHeld
 obtain ⟨m0,m1,m2, -⟩:=K4.c3
 go_wp2
 refine bodyPost_ret (v:=.agg #[.string q0,.string q1,.string q2]) (by simp [results,Tryz.results91,go_sem, *]) rfl ?_
 exact ⟨rfl,G4⟩
end Go.Proofs.YtbnbaokamccmjaaGreatDoor

/- garboardref11: From, Valid. -/
namespace Go.Proofs.YtbnbaokamccmjaaGreatDoor
open Go Go.RowKit
def qOf (s : ByteArray) : Rat:=if isRat s then ratOfL s.data.toList else 0
theorem qOf_rtx (q : Rat) : qOf (rtx q)=q:=by
 unfold qOf
 rw [isRat_rtx,if_pos rfl,rtx_toList,ratOfL_rtoa]
theorem qFrom_any (s : ByteArray) (hs : s.size≤10000000) (w : World) :
  Calls Tryz.prog 97 #[.string s] w fun e w'=>QB (isRat s) (qOf s) w w' e:=by
 cases h : isRat s with
 | true =>
  obtain ⟨q,rfl⟩:=isRat_iff.1 h
  rw [qOf_rtx]
  exact qFrom_good q (Nat.le_trans (rz_le_size q) hs) w
 | false =>
  have:=qFrom_bad s hs h w
  unfold qOf
  rw [h]
  exact this
def vOf (s : SV) : V3:=⟨qOf s.x,qOf s.y,qOf s.z⟩
theorem vOf_txv (a : V3) : vOf (txv a)=a:=by
 unfold vOf txv
 rw [qOf_rtx,qOf_rtx,qOf_rtx]
def VB (b : Bool) (v : V3) (W w : World) (e : Ending) : Prop:=∃ z,e=.returned (.tuple #[z,.bool b])∧Vn w z v∧Below W.heap.size W w
set_option maxRecDepth 100000 in
set_option maxHeartbeats 4000000 in
theorem wFrom_walk (s : SV) (hs : s.le 10000000) (w : World) :
  Calls Tryz.prog 61 #[s.val] w fun e w'=>VB (isVec s) (vOf s) w w' e:=by
 obtain ⟨x,y,z⟩:=s
 obtain ⟨h1,h2,h3⟩:=hs
 have H1:=Lib.hid (fun w=>qFrom_any x h1 w)
 have H2:=Lib.hid (fun w=>qFrom_any y h2 w)
 have H3:=Lib.hid (fun w=>qFrom_any z h3 w)
 unfold vOf isVec SV.val
 dsimp only
 clear h1 h2 h3
 generalize isRat x=r1 at *
 generalize isRat y=r2 at *
 generalize isRat z=r3 at *
 generalize qOf x=q1 at *
 generalize qOf y=q2 at *
 generalize qOf z=q3 at *
 go_enter Tryz.func61,Tryz.ntmps61
 go_wp2_with fail
 refine (H1.out _).mono ?_
 rintro e w1 ⟨v1,rfl,k1,g1⟩
 obtain ⟨A1,a1,B1,c1,hE,p1,o1⟩:=k1.open
 subst hE
 have KS1 : Bk w1 (w.heap.size) [.string x,.string y,.string z]:=Bk.below bkk g1
 have KR1 : Bk w1 (w.heap.size+1) [.bool false,.slice none 0 0,.slice none 0 0,.bool false,.slice none 0 0,.slice none 0 0,.bool false,.slice none 0 0,.slice none 0 0]:=Bk.below bkk g1
 clear p1 o1
 have BB1:=bn (w:=w) bel g1
 clear g1
 obtain ⟨x10,x11,x12, -⟩:=KS1.c3
 have zz1:=KR1.lt
 have zs1 : w.heap.size<w1.heap.size:=by omega
 go_wp2_with fail
 refine (H2.out _).mono ?_
 rintro e w2 ⟨v2,rfl,k2,g2⟩
 obtain ⟨A2,a2,B2,c2,hE,p2,o2⟩:=k2.open
 subst hE
 have KS2 : Bk w2 (w.heap.size) [.string x,.string y,.string z]:=Bk.below bkk g2
 have KR2 : Bk w2 (w.heap.size+1) [.bool false,.slice none 0 0,.slice none 0 0,.bool false,.slice none 0 0,.slice none 0 0,.bool false,.slice none 0 0,.slice none 0 0]:=Bk.below bkk g2
 have K1_2 : Bk w2 (w1.heap.size) [.bool (decide (q1.num<0)),.slice A1 (wds q1.num.natAbs).length a1,.slice B1 (wds q1.den).length c1]:=Bk.below (bk_at rfl) g2
 replace k1:=Qn.below (Qn.below k1 bup) g2
 clear p2 o2
 have BB2:=bn (w:=w) bel g2
 clear g2
 obtain ⟨x20,x21,x22, -⟩:=KS2.c3
 clear KS1 KR1 x10 x11 x12
 have zz2:=KR2.lt
 have zs2 : w.heap.size<w2.heap.size:=by omega
 go_wp2_with fail
 refine (H3.out _).mono ?_
 rintro e w3 ⟨v3,rfl,k3,g3⟩
 obtain ⟨A3,a3,B3,c3,hE,p3,o3⟩:=k3.open
 subst hE
 have KS3 : Bk w3 (w.heap.size) [.string x,.string y,.string z]:=Bk.below bkk g3
 have KR3 : Bk w3 (w.heap.size+1) [.bool false,.slice none 0 0,.slice none 0 0,.bool false,.slice none 0 0,.slice none 0 0,.bool false,.slice none 0 0,.slice none 0 0]:=Bk.below bkk g3
 have K1_3 : Bk w3 (w1.heap.size) [.bool (decide (q1.num<0)),.slice A1 (wds q1.num.natAbs).length a1,.slice B1 (wds q1.den).length c1]:=Bk.below bkk g3
 replace k1:=Qn.below (Qn.below k1 bup) g3
 have K2_3 : Bk w3 (w2.heap.size) [.bool (decide (q2.num<0)),.slice A2 (wds q2.num.natAbs).length a2,.slice B2 (wds q2.den).length c2]:=Bk.below (bk_at rfl) g3
 replace k2:=Qn.below (Qn.below k2 bup) g3
 clear p3 o3
 have BB3:=bn (w:=w) bel g3
 clear g3
 clear KS2 KR2 x20 x21 x22 K1_2
 have zz3:=KR3.lt
 have zs3 : w.heap.size<w3.heap.size:=by omega
 obtain ⟨y10,y11,y12, -⟩:=K1_3.c3
 obtain ⟨y20,y21,y22, -⟩:=K2_3.c3
 obtain ⟨⟨m0,m1,m2,m3,m4,m5,m6,m7,m8⟩,f0,f1,f2,f3,f4,f5,f6,f7,f8⟩:=KR3.c9
 have ya1:=K1_3.lt
 have ya2:=K2_3.lt
 clear KS3
 have KK:=keep9 KR3 (.bool (decide (q1.num<0))) (.slice A1 (wds q1.num.natAbs).length a1) (.slice B1 (wds q1.den).length c1) (.bool (decide (q2.num<0))) (.slice A2 (wds q2.num.natAbs).length a2) (.slice B2 (wds q2.den).length c2) (.bool (decide (q3.num<0))) (.slice A3 (wds q3.num.natAbs).length a3) (.slice B3 (wds q3.den).length c3)
 have HV : Hid (Vn ((((((((((w3.setCell ⟨w.heap.size+1,0,none⟩ (.bool (decide (q1.num<0)))).setCell ⟨w.heap.size+1,1,none⟩ (.slice A1 (wds q1.num.natAbs).length a1)).setCell ⟨w.heap.size+1,2,none⟩ (.slice B1 (wds q1.den).length c1)).setCell ⟨w.heap.size+1,3,none⟩ (.bool (decide (q2.num<0)))).setCell ⟨w.heap.size+1,4,none⟩ (.slice A2 (wds q2.num.natAbs).length a2)).setCell ⟨w.heap.size+1,5,none⟩ (.slice B2 (wds q2.den).length c2)).setCell ⟨w.heap.size+1,6,none⟩ (.bool (decide (q3.num<0)))).setCell ⟨w.heap.size+1,7,none⟩ (.slice A3 (wds q3.num.natAbs).length a3)).setCell ⟨w.heap.size+1,8,none⟩ (.slice B3 (wds q3.den).length c3)).alloc (.cells #[.bool (decide (q3.num<0)),.slice A3 (wds q3.num.natAbs).length a3,.slice B3 (wds q3.den).length c3] 84)) (.agg #[.bool (decide (q1.num<0)),.slice A1 (wds q1.num.natAbs).length a1,.slice B1 (wds q1.den).length c1,.bool (decide (q2.num<0)),.slice A2 (wds q2.num.natAbs).length a2,.slice B2 (wds q2.den).length c2,.bool (decide (q3.num<0)),.slice A3 (wds q3.num.natAbs).length a3,.slice B3 (wds q3.den).length c3]) ⟨q1,q2,q3⟩):=Lib.hid ((vn_mk (k1.keep KK) (k2.keep KK) (k3.keep KK)).below (ba (br _)))
 have HB9 : Hid (Below w.heap.size w ((((((((((w3.setCell ⟨w.heap.size+1,0,none⟩ (.bool (decide (q1.num<0)))).setCell ⟨w.heap.size+1,1,none⟩ (.slice A1 (wds q1.num.natAbs).length a1)).setCell ⟨w.heap.size+1,2,none⟩ (.slice B1 (wds q1.den).length c1)).setCell ⟨w.heap.size+1,3,none⟩ (.bool (decide (q2.num<0)))).setCell ⟨w.heap.size+1,4,none⟩ (.slice A2 (wds q2.num.natAbs).length a2)).setCell ⟨w.heap.size+1,5,none⟩ (.slice B2 (wds q2.den).length c2)).setCell ⟨w.heap.size+1,6,none⟩ (.bool (decide (q3.num<0)))).setCell ⟨w.heap.size+1,7,none⟩ (.slice A3 (wds q3.num.natAbs).length a3)).setCell ⟨w.heap.size+1,8,none⟩ (.slice B3 (wds q3.den).length c3)).alloc (.cells #[.bool (decide (q3.num<0)),.slice A3 (wds q3.num.natAbs).length a3,.slice B3 (wds q3.den).length c3] 84))):=Lib.hid (ba (bs9 BB3 (by omega)))
 clear KK KR3 k1 k2 k3 K1_3 K2_3 BB1 BB2 BB3
 cases r1
 ·go_wp2
  refine bodyPost_ret (v:=.tuple #[.agg #[.bool (decide (q1.num<0)),.slice A1 (wds q1.num.natAbs).length a1,.slice B1 (wds q1.den).length c1,.bool (decide (q2.num<0)),.slice A2 (wds q2.num.natAbs).length a2,.slice B2 (wds q2.den).length c2,.bool (decide (q3.num<0)),.slice A3 (wds q3.num.natAbs).length a3,.slice B3 (wds q3.den).length c3],.bool false]) (by simp [results,Tryz.results61,go_sem, *]) rfl ?_
  exact ⟨_,rfl,HV.out,HB9.out⟩
 ·cases r2
  ·go_wp2
   refine bodyPost_ret (v:=.tuple #[.agg #[.bool (decide (q1.num<0)),.slice A1 (wds q1.num.natAbs).length a1,.slice B1 (wds q1.den).length c1,.bool (decide (q2.num<0)),.slice A2 (wds q2.num.natAbs).length a2,.slice B2 (wds q2.den).length c2,.bool (decide (q3.num<0)),.slice A3 (wds q3.num.natAbs).length a3,.slice B3 (wds q3.den).length c3],.bool false]) (by simp [results,Tryz.results61,go_sem, *]) rfl ?_
   exact ⟨_,rfl,HV.out,HB9.out⟩
  ·cases r3
   ·go_wp2
    refine bodyPost_ret (v:=.tuple #[.agg #[.bool (decide (q1.num<0)),.slice A1 (wds q1.num.natAbs).length a1,.slice B1 (wds q1.den).length c1,.bool (decide (q2.num<0)),.slice A2 (wds q2.num.natAbs).length a2,.slice B2 (wds q2.den).length c2,.bool (decide (q3.num<0)),.slice A3 (wds q3.num.natAbs).length a3,.slice B3 (wds q3.den).length c3],.bool false]) (by simp [results,Tryz.results61,go_sem, *]) rfl ?_
    exact ⟨_,rfl,HV.out,HB9.out⟩
   ·go_wp2
    refine bodyPost_ret (v:=.tuple #[.agg #[.bool (decide (q1.num<0)),.slice A1 (wds q1.num.natAbs).length a1,.slice B1 (wds q1.den).length c1,.bool (decide (q2.num<0)),.slice A2 (wds q2.num.natAbs).length a2,.slice B2 (wds q2.den).length c2,.bool (decide (q3.num<0)),.slice A3 (wds q3.num.natAbs).length a3,.slice B3 (wds q3.den).length c3],.bool true]) (by simp [results,Tryz.results61,go_sem, *]) rfl ?_
    exact ⟨_,rfl,HV.out,HB9.out⟩
end Go.Proofs.YtbnbaokamccmjaaGreatDoor

/- garboardref11: Valid, both, Add. -/
namespace Go.Proofs.YtbnbaokamccmjaaGreatDoor
open Go Go.RowKit
section
variable {P : Program} {ops : Array Oper} {o : Oper} {a : Act} {K : Act→World→Prop} {Q : Exit→Act→World→Prop} {E : Prop}
theorem stored_far {X : World} {b c : Nat} {cs us : List Value} (hc : c≠b) (h : Bk X c us) : Bk (X.setCells b 0 cs) c us :=
 ⟨Nat.lt_of_lt_of_le h.lt (r_below_cells (B:=0) (Nat.zero_le b) cs 0 (Below.refl 0 X)).size,fun j v hv=>by
  rw [World.cell?_setCells_out b cs 0 X ⟨c,j,none⟩ (fun h1 _=>absurd h1 hc)]
  exact h.cell j v hv,fun j=>by
  rw [World.frozen?_setCells]
  exact h.free j⟩
theorem step_store_row2 {w0 X : World} {B b : Nat} {vs cs : List Value} (hgd : o.guard=none) (ty : TypeId) (x y : Operand) (ho : o.op=.store ty x y)
  (hx : a.eval x=.pointer (some ⟨b,0,none⟩)) (hy : a.eval y=.agg cs.toArray) (hb : Bk X b vs) (hl : cs.length=vs.length) (hn : ∀ k i,(Value.int k i) ∉ vs) (h1 : cs.all (·.oneCell')=true)
  (hi : (P.info? ty).map (·.size)=some cs.length) (HB : Below B w0 X) (hB : B≤b)
  (h : ∀ X',Bk X' b cs→Below B w0 X'→Keep X X'→(∀ c o v,c≠b→X.cell? ⟨c,o,none⟩=some v→X'.cell? ⟨c,o,none⟩=some v)→(∀ c us,c≠b→Bk X c us→Bk X' c us)→K (a.put o.dst undef) X') :
  if Region.wanted o (yielded ops a.tmps)=true then Oper.wp P o a X K Q else E:=by
 have hw : Region.wanted o (yielded ops a.tmps)=true:=by simp [Region.wanted,hgd]
 rw [if_pos hw]
 obtain ⟨k1,k2,k3,k4⟩:=stored_row hb hl hn HB hB
 have hth : X.there b 0 cs.toArray.size:=fun j hj=>by
  have hj2 : j<vs.length:=by simp at hj; omega
  rw [Nat.zero_add]
  exact ⟨by rw [hb.cell j _ (List.getElem?_eq_getElem hj2)]; rfl,hb.free j⟩
 refine wp_store_mid ty x y ho b 0 cs.toArray hx hy hth (by simpa using hi) (by simpa using h1) ?_
 exact h _ k1 k2 k3 k4 (fun c us hc h=>stored_far hc h)
end
set_option maxHeartbeats 1000000 in
theorem wValid_walk (s : SV) (hs : s.le 10000000) (w : World) :
  Calls Tryz.prog 55 #[s.val] w fun e w'=>e=.returned (.bool (isVec s))∧Below w.heap.size w w':=by
 have HF:=Lib.hid (fun w=>wFrom_walk s hs w)
 clear hs
 generalize isVec s=r at *
 generalize vOf s=x at *
 unfold SV.val at *
 generalize s.x=x1 at *
 generalize s.y=x2 at *
 generalize s.z=x3 at *
 go_enter Tryz.func55,Tryz.ntmps55
 go_wp2_with fail
 refine (HF.out _).mono ?_
 rintro e w1 ⟨z,rfl,hv,g1⟩
 obtain ⟨pA1,pa1,pB1,pb1,pA2,pa2,pB2,pb2,pA3,pa3,pB3,pb3,hE,ph1,ph2,ph3⟩:=hv.open
 subst hE
 clear hv ph1 ph2 ph3
 have B1:=bn (w:=w) bel g1
 clear g1
 go_wp2
 go_ret
 exact ⟨rfl,bel⟩
def bothC (a b : SV) : Int:=if isVec a && isVec b then 0 else 1
theorem both_ok {a b : SV} (h : isVec a=true) (h2 : isVec b=true) : bothC a b=0:=by unfold bothC; rw [h,h2]; rfl
theorem both_no {a b : SV} (h : (isVec a && isVec b)=false) : bothC a b=1:=by unfold bothC; rw [h]; rfl
theorem Vn.keep {W W' : World} {z : Value} {v : V3} (h : Vn W z v) (g : Keep W W') : Vn W' z v:=by
 obtain ⟨n1,d1,n2,d2,n3,d3,hz,a,b,c⟩:=h
 exact ⟨n1,d1,n2,d2,n3,d3,hz,a.keep g,b.keep g,c.keep g⟩
theorem vn_drew {W : World} {z : Value} {v : V3} (h : Vn W z v) : Vn W.drew z v:=h.below (bd (br _))
set_option maxRecDepth 100000 in
set_option maxHeartbeats 4000000 in
theorem wboth_walk (a b : SV) (ha : a.le 10000000) (hb : b.le 10000000) (w : World) :
  Calls Tryz.prog 90 #[a.val,b.val] w fun e w'=>∃ z1 z2,e=.returned (.tuple #[z1,z2,.int .i64 (bothC a b)])∧Vn w' z1 (vOf a)∧Vn w' z2 (vOf b)∧Below w.heap.size w w':=by
 have H1:=Lib.hid (fun w=>wFrom_walk a ha w)
 have H2:=Lib.hid (fun w=>wFrom_walk b hb w)
 have HO:=Lib.hid (fun h h2=>both_ok (a:=a) (b:=b) h h2)
 have HN:=Lib.hid (fun h=>both_no (a:=a) (b:=b) h)
 clear ha hb
 generalize bothC a b=c at *
 generalize isVec a=r1 at *
 generalize isVec b=r2 at *
 generalize vOf a=x at *
 generalize vOf b=y at *
 unfold SV.val at *
 generalize a.x=a1 at *
 generalize a.y=a2 at *
 generalize a.z=a3 at *
 generalize b.x=b1 at *
 generalize b.y=b2 at *
 generalize b.z=b3 at *
 go_enter Tryz.func90,Tryz.ntmps90
 go_wp2_with fail
 refine (H1.out _).mono ?_
 rintro e w1 ⟨z1,rfl,hx,g1⟩
 obtain ⟨pA1,pa1,pB1,pb1,pA2,pa2,pB2,pb2,pA3,pa3,pB3,pb3,hE,ph1,ph2,ph3⟩:=hx.open
 subst hE
 have KS1 : Bk w1 (w.heap.size+1) [.string b1,.string b2,.string b3]:=Bk.below bkk g1
 have KR1 : Bk w1 (w.heap.size+1+1) [.bool false,.slice none 0 0,.slice none 0 0,.bool false,.slice none 0 0,.slice none 0 0,.bool false,.slice none 0 0,.slice none 0 0]:=Bk.below bkk g1
 have KT1 : Bk w1 (w.heap.size+1+1+1) [.bool false,.slice none 0 0,.slice none 0 0,.bool false,.slice none 0 0,.slice none 0 0,.bool false,.slice none 0 0,.slice none 0 0]:=Bk.below bkk g1
 have BB1:=bn (w:=w) bel g1
 clear g1 ph1 ph2 ph3
 obtain ⟨x10,x11,x12, -⟩:=KS1.c3
 have zt1:=KT1.lt
 have zr1 : w.heap.size+1+1<w1.heap.size:=by omega
 have zs1 : w.heap.size+1<w1.heap.size:=by omega
 go_wp2_with fail
 refine (H2.out _).mono ?_
 rintro e w2 ⟨z2,rfl,hy,g2⟩
 obtain ⟨qA1,qa1,qB1,qb1,qA2,qa2,qB2,qb2,qA3,qa3,qB3,qb3,hE,qh1,qh2,qh3⟩:=hy.open
 subst hE
 have KR2 : Bk w2 (w.heap.size+1+1) [.bool false,.slice none 0 0,.slice none 0 0,.bool false,.slice none 0 0,.slice none 0 0,.bool false,.slice none 0 0,.slice none 0 0]:=Bk.below bkk g2
 have KT2 : Bk w2 (w.heap.size+1+1+1) [.bool false,.slice none 0 0,.slice none 0 0,.bool false,.slice none 0 0,.slice none 0 0,.bool false,.slice none 0 0,.slice none 0 0]:=Bk.below bkk g2
 have KX2 : Bk w2 (w1.heap.size) [.bool (decide (x.x.num<0)),.slice pA1 (wds x.x.num.natAbs).length pa1,.slice pB1 (wds x.x.den).length pb1,.bool (decide (x.y.num<0)),.slice pA2 (wds x.y.num.natAbs).length pa2,.slice pB2 (wds x.y.den).length pb2,.bool (decide (x.z.num<0)),.slice pA3 (wds x.z.num.natAbs).length pa3,.slice pB3 (wds x.z.den).length pb3]:=Bk.below (bk_at rfl) g2
 replace hx:=Vn.below (Vn.below hx bup) g2
 have BB2:=bn (w:=w) bel g2
 clear g2 qh1 qh2 qh3 KS1 KR1 KT1 BB1 x10 x11 x12
 obtain ⟨W,hW⟩ : ∃ W,W=w2.alloc (.cells #[.bool (decide (y.x.num<0)),.slice qA1 (wds y.x.num.natAbs).length qa1,.slice qB1 (wds y.x.den).length qb1,.bool (decide (y.y.num<0)),.slice qA2 (wds y.y.num.natAbs).length qa2,.slice qB2 (wds y.y.den).length qb2,.bool (decide (y.z.num<0)),.slice qA3 (wds y.z.num.natAbs).length qa3,.slice qB3 (wds y.z.den).length qb3] 86):=⟨_,rfl⟩
 have KX : Bk W (w1.heap.size) [.bool (decide (x.x.num<0)),.slice pA1 (wds x.x.num.natAbs).length pa1,.slice pB1 (wds x.x.den).length pb1,.bool (decide (x.y.num<0)),.slice pA2 (wds x.y.num.natAbs).length pa2,.slice pB2 (wds x.y.den).length pb2,.bool (decide (x.z.num<0)),.slice pA3 (wds x.z.num.natAbs).length pa3,.slice pB3 (wds x.z.den).length pb3]:=by rw [hW]; exact KX2.alloc _
 have KY : Bk W (w2.heap.size) [.bool (decide (y.x.num<0)),.slice qA1 (wds y.x.num.natAbs).length qa1,.slice qB1 (wds y.x.den).length qb1,.bool (decide (y.y.num<0)),.slice qA2 (wds y.y.num.natAbs).length qa2,.slice qB2 (wds y.y.den).length qb2,.bool (decide (y.z.num<0)),.slice qA3 (wds y.z.num.natAbs).length qa3,.slice qB3 (wds y.z.den).length qb3]:=by rw [hW]; exact bk_at rfl
 have KR : Bk W (w.heap.size+1+1) [.bool false,.slice none 0 0,.slice none 0 0,.bool false,.slice none 0 0,.slice none 0 0,.bool false,.slice none 0 0,.slice none 0 0]:=by rw [hW]; exact KR2.alloc _
 have KT : Bk W (w.heap.size+1+1+1) [.bool false,.slice none 0 0,.slice none 0 0,.bool false,.slice none 0 0,.slice none 0 0,.bool false,.slice none 0 0,.slice none 0 0]:=by rw [hW]; exact KT2.alloc _
 have BB : Below w.heap.size w W:=by rw [hW]; exact ba BB2
 have VX : Vn W (.agg #[.bool (decide (x.x.num<0)),.slice pA1 (wds x.x.num.natAbs).length pa1,.slice pB1 (wds x.x.den).length pb1,.bool (decide (x.y.num<0)),.slice pA2 (wds x.y.num.natAbs).length pa2,.slice pB2 (wds x.y.den).length pb2,.bool (decide (x.z.num<0)),.slice pA3 (wds x.z.num.natAbs).length pa3,.slice pB3 (wds x.z.den).length pb3]) x:=by rw [hW]; exact hx.below (ba (br _))
 have VY : Vn W (.agg #[.bool (decide (y.x.num<0)),.slice qA1 (wds y.x.num.natAbs).length qa1,.slice qB1 (wds y.x.den).length qb1,.bool (decide (y.y.num<0)),.slice qA2 (wds y.y.num.natAbs).length qa2,.slice qB2 (wds y.y.den).length qb2,.bool (decide (y.z.num<0)),.slice qA3 (wds y.z.num.natAbs).length qa3,.slice qB3 (wds y.z.den).length qb3]) y:=by rw [hW]; exact hy.below (ba (br _))
 have zw2:=KX2.lt
 clear KX2 KR2 KT2 hx hy BB2
 obtain ⟨⟨xc0,xc1,xc2,xc3,xc4,xc5,xc6,xc7,xc8⟩, -⟩:=KX.c9
 obtain ⟨⟨yc0,yc1,yc2,yc3,yc4,yc5,yc6,yc7,yc8⟩, -⟩:=KY.c9
 clear KX KY
 cases r1
 ·have E:=Lib.hid (HN.out rfl)
  go_wp2
  rw [← hW]
  refine wp_region_held_drew (S:=fun w'=>w'.cell? ⟨w1.heap.size,0,none⟩=some (.bool (decide (x.x.num<0)))∧w'.cell? ⟨w1.heap.size,1,none⟩=some (.slice pA1 (wds x.x.num.natAbs).length pa1)∧w'.cell? ⟨w1.heap.size,2,none⟩=some (.slice pB1 (wds x.x.den).length pb1)∧w'.cell? ⟨w1.heap.size,3,none⟩=some (.bool (decide (x.y.num<0)))∧w'.cell? ⟨w1.heap.size,4,none⟩=some (.slice pA2 (wds x.y.num.natAbs).length pa2)∧w'.cell? ⟨w1.heap.size,5,none⟩=some (.slice pB2 (wds x.y.den).length pb2)∧w'.cell? ⟨w1.heap.size,6,none⟩=some (.bool (decide (x.z.num<0)))∧w'.cell? ⟨w1.heap.size,7,none⟩=some (.slice pA3 (wds x.z.num.natAbs).length pa3)∧w'.cell? ⟨w1.heap.size,8,none⟩=some (.slice pB3 (wds x.z.den).length pb3)∧w'.cell? ⟨w2.heap.size,0,none⟩=some (.bool (decide (y.x.num<0)))∧w'.cell? ⟨w2.heap.size,1,none⟩=some (.slice qA1 (wds y.x.num.natAbs).length qa1)∧w'.cell? ⟨w2.heap.size,2,none⟩=some (.slice qB1 (wds y.x.den).length qb1)∧w'.cell? ⟨w2.heap.size,3,none⟩=some (.bool (decide (y.y.num<0)))∧w'.cell? ⟨w2.heap.size,4,none⟩=some (.slice qA2 (wds y.y.num.natAbs).length qa2)∧w'.cell? ⟨w2.heap.size,5,none⟩=some (.slice qB2 (wds y.y.den).length qb2)∧w'.cell? ⟨w2.heap.size,6,none⟩=some (.bool (decide (y.z.num<0)))∧w'.cell? ⟨w2.heap.size,7,none⟩=some (.slice qA3 (wds y.z.num.natAbs).length qa3)∧w'.cell? ⟨w2.heap.size,8,none⟩=some (.slice qB3 (wds y.z.den).length qb3)∧Below w.heap.size w w') (by kernel_rfl) ?_ (fun hHeld=>?_)
  ·exact ⟨bc (bd (br _)) xc0,bc (bd (br _)) xc1,bc (bd (br _)) xc2,bc (bd (br _)) xc3,bc (bd (br _)) xc4,bc (bd (br _)) xc5,bc (bd (br _)) xc6,bc (bd (br _)) xc7,bc (bd (br _)) xc8,bc (bd (br _)) yc0,bc (bd (br _)) yc1,bc (bd (br _)) yc2,bc (bd (br _)) yc3,bc (bd (br _)) yc4,bc (bd (br _)) yc5,bc (bd (br _)) yc6,bc (bd (br _)) yc7,bc (bd (br _)) yc8,bd BB⟩
  refine wtk 0 (.agg #[.bool (decide (x.x.num<0)),.slice pA1 (wds x.x.num.natAbs).length pa1,.slice pB1 (wds x.x.den).length pb1,.bool (decide (x.y.num<0)),.slice pA2 (wds x.y.num.natAbs).length pa2,.slice pB2 (wds x.y.den).length pb2,.bool (decide (x.z.num<0)),.slice pA3 (wds x.z.num.natAbs).length pa3,.slice pB3 (wds x.z.den).length pb3]) rfl rfl (fun w' hS=>?_) hHeld ?_
  ·(try dsimp only at hS); go_split_ands; go_simp
  try simp only [Act.put,lsx]
  refine wtk 1 (.agg #[.bool (decide (y.x.num<0)),.slice qA1 (wds y.x.num.natAbs).length qa1,.slice qB1 (wds y.x.den).length qb1,.bool (decide (y.y.num<0)),.slice qA2 (wds y.y.num.natAbs).length qa2,.slice qB2 (wds y.y.den).length qb2,.bool (decide (y.z.num<0)),.slice qA3 (wds y.z.num.natAbs).length qa3,.slice qB3 (wds y.z.den).length qb3]) rfl rfl (fun w' hS=>?_) hHeld ?_
  ·(try dsimp only at hS); go_split_ands; go_simp
  try simp only [Act.put,lsx]
  refine wrd 2 rfl (fun K hK=>?_)
  obtain ⟨s0_,s1_,s2_,s3_,s4_,s5_,s6_,s7_,s8_,s9_,s10_,s11_,s12_,s13_,s14_,s15_,s16_,s17_,s18_⟩:=hHeld
  refine step_store_row2 (w0:=w) (B:=w.heap.size) (b:=w.heap.size+1+1) (cs:=[.bool (decide (x.x.num<0)),.slice pA1 (wds x.x.num.natAbs).length pa1,.slice pB1 (wds x.x.den).length pb1,.bool (decide (x.y.num<0)),.slice pA2 (wds x.y.num.natAbs).length pa2,.slice pB2 (wds x.y.den).length pb2,.bool (decide (x.z.num<0)),.slice pA3 (wds x.z.num.natAbs).length pa3,.slice pB3 (wds x.z.den).length pb3]) (by rfl) 86 (.tmp 4) (.tmp 27) (by rfl) (by rfl) (by rfl) KR.drew (by rfl) (by simp) (by rfl) (by kernel_rfl) s18_ (by omega) ?_
  intro W4 K4 G4 KP4 FR4 FB4
  have KT4:=FB4 _ _ (by omega) KT.drew
  refine hK.out _ _ ⟨FR4 _ _ _ (by omega) s0_,FR4 _ _ _ (by omega) s1_,FR4 _ _ _ (by omega) s2_,FR4 _ _ _ (by omega) s3_,FR4 _ _ _ (by omega) s4_,FR4 _ _ _ (by omega) s5_,FR4 _ _ _ (by omega) s6_,FR4 _ _ _ (by omega) s7_,FR4 _ _ _ (by omega) s8_,FR4 _ _ _ (by omega) s9_,FR4 _ _ _ (by omega) s10_,FR4 _ _ _ (by omega) s11_,FR4 _ _ _ (by omega) s12_,FR4 _ _ _ (by omega) s13_,FR4 _ _ _ (by omega) s14_,FR4 _ _ _ (by omega) s15_,FR4 _ _ _ (by omega) s16_,FR4 _ _ _ (by omega) s17_,G4⟩ (fun hHeld=>?_)
  clear s0_ s1_ s2_ s3_ s4_ s5_ s6_ s7_ s8_ s9_ s10_ s11_ s12_ s13_ s14_ s15_ s16_ s17_ s18_
  clear hK K
  try simp only [Act.put,lsx]
  refine wrd 3 rfl (fun K hK=>?_)
  obtain ⟨s0_,s1_,s2_,s3_,s4_,s5_,s6_,s7_,s8_,s9_,s10_,s11_,s12_,s13_,s14_,s15_,s16_,s17_,s18_⟩:=hHeld
  refine step_store_row2 (w0:=w) (B:=w.heap.size) (b:=w.heap.size+1+1+1) (cs:=[.bool (decide (y.x.num<0)),.slice qA1 (wds y.x.num.natAbs).length qa1,.slice qB1 (wds y.x.den).length qb1,.bool (decide (y.y.num<0)),.slice qA2 (wds y.y.num.natAbs).length qa2,.slice qB2 (wds y.y.den).length qb2,.bool (decide (y.z.num<0)),.slice qA3 (wds y.z.num.natAbs).length qa3,.slice qB3 (wds y.z.den).length qb3]) (by rfl) 86 (.tmp 5) (.tmp 28) (by rfl) (by rfl) (by rfl) KT4 (by rfl) (by simp) (by rfl) (by kernel_rfl) s18_ (by omega) ?_
  intro W5 K5 G5 KP5 FR5 FB5
  refine hK.out _ _ ⟨FR5 _ _ _ (by omega) s0_,FR5 _ _ _ (by omega) s1_,FR5 _ _ _ (by omega) s2_,FR5 _ _ _ (by omega) s3_,FR5 _ _ _ (by omega) s4_,FR5 _ _ _ (by omega) s5_,FR5 _ _ _ (by omega) s6_,FR5 _ _ _ (by omega) s7_,FR5 _ _ _ (by omega) s8_,FR5 _ _ _ (by omega) s9_,FR5 _ _ _ (by omega) s10_,FR5 _ _ _ (by omega) s11_,FR5 _ _ _ (by omega) s12_,FR5 _ _ _ (by omega) s13_,FR5 _ _ _ (by omega) s14_,FR5 _ _ _ (by omega) s15_,FR5 _ _ _ (by omega) s16_,FR5 _ _ _ (by omega) s17_,G5⟩ (fun hHeld=>?_)
  clear s0_ s1_ s2_ s3_ s4_ s5_ s6_ s7_ s8_ s9_ s10_ s11_ s12_ s13_ s14_ s15_ s16_ s17_ s18_
  clear hK K
  try simp only [Act.put,lsx]
  refine wtk 4 (.int .i64 1) rfl rfl (fun w' hS=>?_) hHeld ?_
  ·(try dsimp only at hS); go_split_ands; go_simp
  try simp only [Act.put,lsx]
  refine wpAnyH_done (by kernel_rfl) ?_ _
  clear hHeld xc0 xc1 xc2 xc3 xc4 xc5 xc6 xc7 xc8 yc0 yc1 yc2 yc3 yc4 yc5 yc6 yc7 yc8
  have r0:=FR5 _ _ _ (show w.heap.size+1+1≠w.heap.size+1+1+1 by omega) (K4.cell 0 _ rfl)
  have r1:=FR5 _ _ _ (show w.heap.size+1+1≠w.heap.size+1+1+1 by omega) (K4.cell 1 _ rfl)
  have r2:=FR5 _ _ _ (show w.heap.size+1+1≠w.heap.size+1+1+1 by omega) (K4.cell 2 _ rfl)
  have r3:=FR5 _ _ _ (show w.heap.size+1+1≠w.heap.size+1+1+1 by omega) (K4.cell 3 _ rfl)
  have r4:=FR5 _ _ _ (show w.heap.size+1+1≠w.heap.size+1+1+1 by omega) (K4.cell 4 _ rfl)
  have r5:=FR5 _ _ _ (show w.heap.size+1+1≠w.heap.size+1+1+1 by omega) (K4.cell 5 _ rfl)
  have r6:=FR5 _ _ _ (show w.heap.size+1+1≠w.heap.size+1+1+1 by omega) (K4.cell 6 _ rfl)
  have r7:=FR5 _ _ _ (show w.heap.size+1+1≠w.heap.size+1+1+1 by omega) (K4.cell 7 _ rfl)
  have r8:=FR5 _ _ _ (show w.heap.size+1+1≠w.heap.size+1+1+1 by omega) (K4.cell 8 _ rfl)
  obtain ⟨⟨t0,t1,t2,t3,t4,t5,t6,t7,t8⟩, -⟩:=K5.c9
  clear K4 KT4
  go_wp2
  refine bodyPost_ret (v:=.tuple #[.agg #[.bool (decide (x.x.num<0)),.slice pA1 (wds x.x.num.natAbs).length pa1,.slice pB1 (wds x.x.den).length pb1,.bool (decide (x.y.num<0)),.slice pA2 (wds x.y.num.natAbs).length pa2,.slice pB2 (wds x.y.den).length pb2,.bool (decide (x.z.num<0)),.slice pA3 (wds x.z.num.natAbs).length pa3,.slice pB3 (wds x.z.den).length pb3],.agg #[.bool (decide (y.x.num<0)),.slice qA1 (wds y.x.num.natAbs).length qa1,.slice qB1 (wds y.x.den).length qb1,.bool (decide (y.y.num<0)),.slice qA2 (wds y.y.num.natAbs).length qa2,.slice qB2 (wds y.y.den).length qb2,.bool (decide (y.z.num<0)),.slice qA3 (wds y.z.num.natAbs).length qa3,.slice qB3 (wds y.z.den).length qb3],.int .i64 1]) (by simp [results,Tryz.results90,go_sem, *]) rfl ?_
  exact ⟨_,_,by rw [E.out],((vn_drew VX).keep KP4).keep KP5,((vn_drew VY).keep KP4).keep KP5,G5⟩
 ·cases r2
  ·have E:=Lib.hid (HN.out rfl)
   go_wp2
   rw [← hW]
   refine wp_region_held_drew (S:=fun w'=>w'.cell? ⟨w1.heap.size,0,none⟩=some (.bool (decide (x.x.num<0)))∧w'.cell? ⟨w1.heap.size,1,none⟩=some (.slice pA1 (wds x.x.num.natAbs).length pa1)∧w'.cell? ⟨w1.heap.size,2,none⟩=some (.slice pB1 (wds x.x.den).length pb1)∧w'.cell? ⟨w1.heap.size,3,none⟩=some (.bool (decide (x.y.num<0)))∧w'.cell? ⟨w1.heap.size,4,none⟩=some (.slice pA2 (wds x.y.num.natAbs).length pa2)∧w'.cell? ⟨w1.heap.size,5,none⟩=some (.slice pB2 (wds x.y.den).length pb2)∧w'.cell? ⟨w1.heap.size,6,none⟩=some (.bool (decide (x.z.num<0)))∧w'.cell? ⟨w1.heap.size,7,none⟩=some (.slice pA3 (wds x.z.num.natAbs).length pa3)∧w'.cell? ⟨w1.heap.size,8,none⟩=some (.slice pB3 (wds x.z.den).length pb3)∧w'.cell? ⟨w2.heap.size,0,none⟩=some (.bool (decide (y.x.num<0)))∧w'.cell? ⟨w2.heap.size,1,none⟩=some (.slice qA1 (wds y.x.num.natAbs).length qa1)∧w'.cell? ⟨w2.heap.size,2,none⟩=some (.slice qB1 (wds y.x.den).length qb1)∧w'.cell? ⟨w2.heap.size,3,none⟩=some (.bool (decide (y.y.num<0)))∧w'.cell? ⟨w2.heap.size,4,none⟩=some (.slice qA2 (wds y.y.num.natAbs).length qa2)∧w'.cell? ⟨w2.heap.size,5,none⟩=some (.slice qB2 (wds y.y.den).length qb2)∧w'.cell? ⟨w2.heap.size,6,none⟩=some (.bool (decide (y.z.num<0)))∧w'.cell? ⟨w2.heap.size,7,none⟩=some (.slice qA3 (wds y.z.num.natAbs).length qa3)∧w'.cell? ⟨w2.heap.size,8,none⟩=some (.slice qB3 (wds y.z.den).length qb3)∧Below w.heap.size w w') (by kernel_rfl) ?_ (fun hHeld=>?_)
   ·exact ⟨bc (bd (br _)) xc0,bc (bd (br _)) xc1,bc (bd (br _)) xc2,bc (bd (br _)) xc3,bc (bd (br _)) xc4,bc (bd (br _)) xc5,bc (bd (br _)) xc6,bc (bd (br _)) xc7,bc (bd (br _)) xc8,bc (bd (br _)) yc0,bc (bd (br _)) yc1,bc (bd (br _)) yc2,bc (bd (br _)) yc3,bc (bd (br _)) yc4,bc (bd (br _)) yc5,bc (bd (br _)) yc6,bc (bd (br _)) yc7,bc (bd (br _)) yc8,bd BB⟩
   refine wtk 0 (.agg #[.bool (decide (x.x.num<0)),.slice pA1 (wds x.x.num.natAbs).length pa1,.slice pB1 (wds x.x.den).length pb1,.bool (decide (x.y.num<0)),.slice pA2 (wds x.y.num.natAbs).length pa2,.slice pB2 (wds x.y.den).length pb2,.bool (decide (x.z.num<0)),.slice pA3 (wds x.z.num.natAbs).length pa3,.slice pB3 (wds x.z.den).length pb3]) rfl rfl (fun w' hS=>?_) hHeld ?_
   ·(try dsimp only at hS); go_split_ands; go_simp
   try simp only [Act.put,lsx]
   refine wtk 1 (.agg #[.bool (decide (y.x.num<0)),.slice qA1 (wds y.x.num.natAbs).length qa1,.slice qB1 (wds y.x.den).length qb1,.bool (decide (y.y.num<0)),.slice qA2 (wds y.y.num.natAbs).length qa2,.slice qB2 (wds y.y.den).length qb2,.bool (decide (y.z.num<0)),.slice qA3 (wds y.z.num.natAbs).length qa3,.slice qB3 (wds y.z.den).length qb3]) rfl rfl (fun w' hS=>?_) hHeld ?_
   ·(try dsimp only at hS); go_split_ands; go_simp
   try simp only [Act.put,lsx]
   refine wrd 2 rfl (fun K hK=>?_)
   obtain ⟨s0_,s1_,s2_,s3_,s4_,s5_,s6_,s7_,s8_,s9_,s10_,s11_,s12_,s13_,s14_,s15_,s16_,s17_,s18_⟩:=hHeld
   refine step_store_row2 (w0:=w) (B:=w.heap.size) (b:=w.heap.size+1+1) (cs:=[.bool (decide (x.x.num<0)),.slice pA1 (wds x.x.num.natAbs).length pa1,.slice pB1 (wds x.x.den).length pb1,.bool (decide (x.y.num<0)),.slice pA2 (wds x.y.num.natAbs).length pa2,.slice pB2 (wds x.y.den).length pb2,.bool (decide (x.z.num<0)),.slice pA3 (wds x.z.num.natAbs).length pa3,.slice pB3 (wds x.z.den).length pb3]) (by rfl) 86 (.tmp 4) (.tmp 27) (by rfl) (by rfl) (by rfl) KR.drew (by rfl) (by simp) (by rfl) (by kernel_rfl) s18_ (by omega) ?_
   intro W4 K4 G4 KP4 FR4 FB4
   have KT4:=FB4 _ _ (by omega) KT.drew
   refine hK.out _ _ ⟨FR4 _ _ _ (by omega) s0_,FR4 _ _ _ (by omega) s1_,FR4 _ _ _ (by omega) s2_,FR4 _ _ _ (by omega) s3_,FR4 _ _ _ (by omega) s4_,FR4 _ _ _ (by omega) s5_,FR4 _ _ _ (by omega) s6_,FR4 _ _ _ (by omega) s7_,FR4 _ _ _ (by omega) s8_,FR4 _ _ _ (by omega) s9_,FR4 _ _ _ (by omega) s10_,FR4 _ _ _ (by omega) s11_,FR4 _ _ _ (by omega) s12_,FR4 _ _ _ (by omega) s13_,FR4 _ _ _ (by omega) s14_,FR4 _ _ _ (by omega) s15_,FR4 _ _ _ (by omega) s16_,FR4 _ _ _ (by omega) s17_,G4⟩ (fun hHeld=>?_)
   clear s0_ s1_ s2_ s3_ s4_ s5_ s6_ s7_ s8_ s9_ s10_ s11_ s12_ s13_ s14_ s15_ s16_ s17_ s18_
   clear hK K
   try simp only [Act.put,lsx]
   refine wrd 3 rfl (fun K hK=>?_)
   obtain ⟨s0_,s1_,s2_,s3_,s4_,s5_,s6_,s7_,s8_,s9_,s10_,s11_,s12_,s13_,s14_,s15_,s16_,s17_,s18_⟩:=hHeld
   refine step_store_row2 (w0:=w) (B:=w.heap.size) (b:=w.heap.size+1+1+1) (cs:=[.bool (decide (y.x.num<0)),.slice qA1 (wds y.x.num.natAbs).length qa1,.slice qB1 (wds y.x.den).length qb1,.bool (decide (y.y.num<0)),.slice qA2 (wds y.y.num.natAbs).length qa2,.slice qB2 (wds y.y.den).length qb2,.bool (decide (y.z.num<0)),.slice qA3 (wds y.z.num.natAbs).length qa3,.slice qB3 (wds y.z.den).length qb3]) (by rfl) 86 (.tmp 5) (.tmp 28) (by rfl) (by rfl) (by rfl) KT4 (by rfl) (by simp) (by rfl) (by kernel_rfl) s18_ (by omega) ?_
   intro W5 K5 G5 KP5 FR5 FB5
   refine hK.out _ _ ⟨FR5 _ _ _ (by omega) s0_,FR5 _ _ _ (by omega) s1_,FR5 _ _ _ (by omega) s2_,FR5 _ _ _ (by omega) s3_,FR5 _ _ _ (by omega) s4_,FR5 _ _ _ (by omega) s5_,FR5 _ _ _ (by omega) s6_,FR5 _ _ _ (by omega) s7_,FR5 _ _ _ (by omega) s8_,FR5 _ _ _ (by omega) s9_,FR5 _ _ _ (by omega) s10_,FR5 _ _ _ (by omega) s11_,FR5 _ _ _ (by omega) s12_,FR5 _ _ _ (by omega) s13_,FR5 _ _ _ (by omega) s14_,FR5 _ _ _ (by omega) s15_,FR5 _ _ _ (by omega) s16_,FR5 _ _ _ (by omega) s17_,G5⟩ (fun hHeld=>?_)
   clear s0_ s1_ s2_ s3_ s4_ s5_ s6_ s7_ s8_ s9_ s10_ s11_ s12_ s13_ s14_ s15_ s16_ s17_ s18_
   clear hK K
   try simp only [Act.put,lsx]
   refine wtk 4 (.int .i64 1) rfl rfl (fun w' hS=>?_) hHeld ?_
   ·(try dsimp only at hS); go_split_ands; go_simp
   try simp only [Act.put,lsx]
   refine wpAnyH_done (by kernel_rfl) ?_ _
   clear hHeld xc0 xc1 xc2 xc3 xc4 xc5 xc6 xc7 xc8 yc0 yc1 yc2 yc3 yc4 yc5 yc6 yc7 yc8
   have r0:=FR5 _ _ _ (show w.heap.size+1+1≠w.heap.size+1+1+1 by omega) (K4.cell 0 _ rfl)
   have r1:=FR5 _ _ _ (show w.heap.size+1+1≠w.heap.size+1+1+1 by omega) (K4.cell 1 _ rfl)
   have r2:=FR5 _ _ _ (show w.heap.size+1+1≠w.heap.size+1+1+1 by omega) (K4.cell 2 _ rfl)
   have r3:=FR5 _ _ _ (show w.heap.size+1+1≠w.heap.size+1+1+1 by omega) (K4.cell 3 _ rfl)
   have r4:=FR5 _ _ _ (show w.heap.size+1+1≠w.heap.size+1+1+1 by omega) (K4.cell 4 _ rfl)
   have r5:=FR5 _ _ _ (show w.heap.size+1+1≠w.heap.size+1+1+1 by omega) (K4.cell 5 _ rfl)
   have r6:=FR5 _ _ _ (show w.heap.size+1+1≠w.heap.size+1+1+1 by omega) (K4.cell 6 _ rfl)
   have r7:=FR5 _ _ _ (show w.heap.size+1+1≠w.heap.size+1+1+1 by omega) (K4.cell 7 _ rfl)
   have r8:=FR5 _ _ _ (show w.heap.size+1+1≠w.heap.size+1+1+1 by omega) (K4.cell 8 _ rfl)
   obtain ⟨⟨t0,t1,t2,t3,t4,t5,t6,t7,t8⟩, -⟩:=K5.c9
   clear K4 KT4
   go_wp2
   refine bodyPost_ret (v:=.tuple #[.agg #[.bool (decide (x.x.num<0)),.slice pA1 (wds x.x.num.natAbs).length pa1,.slice pB1 (wds x.x.den).length pb1,.bool (decide (x.y.num<0)),.slice pA2 (wds x.y.num.natAbs).length pa2,.slice pB2 (wds x.y.den).length pb2,.bool (decide (x.z.num<0)),.slice pA3 (wds x.z.num.natAbs).length pa3,.slice pB3 (wds x.z.den).length pb3],.agg #[.bool (decide (y.x.num<0)),.slice qA1 (wds y.x.num.natAbs).length qa1,.slice qB1 (wds y.x.den).length qb1,.bool (decide (y.y.num<0)),.slice qA2 (wds y.y.num.natAbs).length qa2,.slice qB2 (wds y.y.den).length qb2,.bool (decide (y.z.num<0)),.slice qA3 (wds y.z.num.natAbs).length qa3,.slice qB3 (wds y.z.den).length qb3],.int .i64 1]) (by simp [results,Tryz.results90,go_sem, *]) rfl ?_
   exact ⟨_,_,by rw [E.out],((vn_drew VX).keep KP4).keep KP5,((vn_drew VY).keep KP4).keep KP5,G5⟩
  ·have E:=Lib.hid (HO.out rfl rfl)
   go_wp2
   rw [← hW]
   refine wp_region_held_drew (S:=fun w'=>w'.cell? ⟨w1.heap.size,0,none⟩=some (.bool (decide (x.x.num<0)))∧w'.cell? ⟨w1.heap.size,1,none⟩=some (.slice pA1 (wds x.x.num.natAbs).length pa1)∧w'.cell? ⟨w1.heap.size,2,none⟩=some (.slice pB1 (wds x.x.den).length pb1)∧w'.cell? ⟨w1.heap.size,3,none⟩=some (.bool (decide (x.y.num<0)))∧w'.cell? ⟨w1.heap.size,4,none⟩=some (.slice pA2 (wds x.y.num.natAbs).length pa2)∧w'.cell? ⟨w1.heap.size,5,none⟩=some (.slice pB2 (wds x.y.den).length pb2)∧w'.cell? ⟨w1.heap.size,6,none⟩=some (.bool (decide (x.z.num<0)))∧w'.cell? ⟨w1.heap.size,7,none⟩=some (.slice pA3 (wds x.z.num.natAbs).length pa3)∧w'.cell? ⟨w1.heap.size,8,none⟩=some (.slice pB3 (wds x.z.den).length pb3)∧w'.cell? ⟨w2.heap.size,0,none⟩=some (.bool (decide (y.x.num<0)))∧w'.cell? ⟨w2.heap.size,1,none⟩=some (.slice qA1 (wds y.x.num.natAbs).length qa1)∧w'.cell? ⟨w2.heap.size,2,none⟩=some (.slice qB1 (wds y.x.den).length qb1)∧w'.cell? ⟨w2.heap.size,3,none⟩=some (.bool (decide (y.y.num<0)))∧w'.cell? ⟨w2.heap.size,4,none⟩=some (.slice qA2 (wds y.y.num.natAbs).length qa2)∧w'.cell? ⟨w2.heap.size,5,none⟩=some (.slice qB2 (wds y.y.den).length qb2)∧w'.cell? ⟨w2.heap.size,6,none⟩=some (.bool (decide (y.z.num<0)))∧w'.cell? ⟨w2.heap.size,7,none⟩=some (.slice qA3 (wds y.z.num.natAbs).length qa3)∧w'.cell? ⟨w2.heap.size,8,none⟩=some (.slice qB3 (wds y.z.den).length qb3)∧Below w.heap.size w w') (by kernel_rfl) ?_ (fun hHeld=>?_)
   ·exact ⟨bc (bd (br _)) xc0,bc (bd (br _)) xc1,bc (bd (br _)) xc2,bc (bd (br _)) xc3,bc (bd (br _)) xc4,bc (bd (br _)) xc5,bc (bd (br _)) xc6,bc (bd (br _)) xc7,bc (bd (br _)) xc8,bc (bd (br _)) yc0,bc (bd (br _)) yc1,bc (bd (br _)) yc2,bc (bd (br _)) yc3,bc (bd (br _)) yc4,bc (bd (br _)) yc5,bc (bd (br _)) yc6,bc (bd (br _)) yc7,bc (bd (br _)) yc8,bd BB⟩
   refine wtk 0 (.agg #[.bool (decide (x.x.num<0)),.slice pA1 (wds x.x.num.natAbs).length pa1,.slice pB1 (wds x.x.den).length pb1,.bool (decide (x.y.num<0)),.slice pA2 (wds x.y.num.natAbs).length pa2,.slice pB2 (wds x.y.den).length pb2,.bool (decide (x.z.num<0)),.slice pA3 (wds x.z.num.natAbs).length pa3,.slice pB3 (wds x.z.den).length pb3]) rfl rfl (fun w' hS=>?_) hHeld ?_
   ·(try dsimp only at hS); go_split_ands; go_simp
   try simp only [Act.put,lsx]
   refine wtk 1 (.agg #[.bool (decide (y.x.num<0)),.slice qA1 (wds y.x.num.natAbs).length qa1,.slice qB1 (wds y.x.den).length qb1,.bool (decide (y.y.num<0)),.slice qA2 (wds y.y.num.natAbs).length qa2,.slice qB2 (wds y.y.den).length qb2,.bool (decide (y.z.num<0)),.slice qA3 (wds y.z.num.natAbs).length qa3,.slice qB3 (wds y.z.den).length qb3]) rfl rfl (fun w' hS=>?_) hHeld ?_
   ·(try dsimp only at hS); go_split_ands; go_simp
   try simp only [Act.put,lsx]
   refine wrd 2 rfl (fun K hK=>?_)
   obtain ⟨s0_,s1_,s2_,s3_,s4_,s5_,s6_,s7_,s8_,s9_,s10_,s11_,s12_,s13_,s14_,s15_,s16_,s17_,s18_⟩:=hHeld
   refine step_store_row2 (w0:=w) (B:=w.heap.size) (b:=w.heap.size+1+1) (cs:=[.bool (decide (x.x.num<0)),.slice pA1 (wds x.x.num.natAbs).length pa1,.slice pB1 (wds x.x.den).length pb1,.bool (decide (x.y.num<0)),.slice pA2 (wds x.y.num.natAbs).length pa2,.slice pB2 (wds x.y.den).length pb2,.bool (decide (x.z.num<0)),.slice pA3 (wds x.z.num.natAbs).length pa3,.slice pB3 (wds x.z.den).length pb3]) (by rfl) 86 (.tmp 4) (.tmp 29) (by rfl) (by rfl) (by rfl) KR.drew (by rfl) (by simp) (by rfl) (by kernel_rfl) s18_ (by omega) ?_
   intro W4 K4 G4 KP4 FR4 FB4
   have KT4:=FB4 _ _ (by omega) KT.drew
   refine hK.out _ _ ⟨FR4 _ _ _ (by omega) s0_,FR4 _ _ _ (by omega) s1_,FR4 _ _ _ (by omega) s2_,FR4 _ _ _ (by omega) s3_,FR4 _ _ _ (by omega) s4_,FR4 _ _ _ (by omega) s5_,FR4 _ _ _ (by omega) s6_,FR4 _ _ _ (by omega) s7_,FR4 _ _ _ (by omega) s8_,FR4 _ _ _ (by omega) s9_,FR4 _ _ _ (by omega) s10_,FR4 _ _ _ (by omega) s11_,FR4 _ _ _ (by omega) s12_,FR4 _ _ _ (by omega) s13_,FR4 _ _ _ (by omega) s14_,FR4 _ _ _ (by omega) s15_,FR4 _ _ _ (by omega) s16_,FR4 _ _ _ (by omega) s17_,G4⟩ (fun hHeld=>?_)
   clear s0_ s1_ s2_ s3_ s4_ s5_ s6_ s7_ s8_ s9_ s10_ s11_ s12_ s13_ s14_ s15_ s16_ s17_ s18_
   clear hK K
   try simp only [Act.put,lsx]
   refine wrd 3 rfl (fun K hK=>?_)
   obtain ⟨s0_,s1_,s2_,s3_,s4_,s5_,s6_,s7_,s8_,s9_,s10_,s11_,s12_,s13_,s14_,s15_,s16_,s17_,s18_⟩:=hHeld
   refine step_store_row2 (w0:=w) (B:=w.heap.size) (b:=w.heap.size+1+1+1) (cs:=[.bool (decide (y.x.num<0)),.slice qA1 (wds y.x.num.natAbs).length qa1,.slice qB1 (wds y.x.den).length qb1,.bool (decide (y.y.num<0)),.slice qA2 (wds y.y.num.natAbs).length qa2,.slice qB2 (wds y.y.den).length qb2,.bool (decide (y.z.num<0)),.slice qA3 (wds y.z.num.natAbs).length qa3,.slice qB3 (wds y.z.den).length qb3]) (by rfl) 86 (.tmp 5) (.tmp 30) (by rfl) (by rfl) (by rfl) KT4 (by rfl) (by simp) (by rfl) (by kernel_rfl) s18_ (by omega) ?_
   intro W5 K5 G5 KP5 FR5 FB5
   refine hK.out _ _ ⟨FR5 _ _ _ (by omega) s0_,FR5 _ _ _ (by omega) s1_,FR5 _ _ _ (by omega) s2_,FR5 _ _ _ (by omega) s3_,FR5 _ _ _ (by omega) s4_,FR5 _ _ _ (by omega) s5_,FR5 _ _ _ (by omega) s6_,FR5 _ _ _ (by omega) s7_,FR5 _ _ _ (by omega) s8_,FR5 _ _ _ (by omega) s9_,FR5 _ _ _ (by omega) s10_,FR5 _ _ _ (by omega) s11_,FR5 _ _ _ (by omega) s12_,FR5 _ _ _ (by omega) s13_,FR5 _ _ _ (by omega) s14_,FR5 _ _ _ (by omega) s15_,FR5 _ _ _ (by omega) s16_,FR5 _ _ _ (by omega) s17_,G5⟩ (fun hHeld=>?_)
   clear s0_ s1_ s2_ s3_ s4_ s5_ s6_ s7_ s8_ s9_ s10_ s11_ s12_ s13_ s14_ s15_ s16_ s17_ s18_
   clear hK K
   try simp only [Act.put,lsx]
   refine wtk 4 (.int .i64 0) rfl rfl (fun w' hS=>?_) hHeld ?_
   ·(try dsimp only at hS); go_split_ands; go_simp
   try simp only [Act.put,lsx]
   refine wpAnyH_done (by kernel_rfl) ?_ _
   clear hHeld xc0 xc1 xc2 xc3 xc4 xc5 xc6 xc7 xc8 yc0 yc1 yc2 yc3 yc4 yc5 yc6 yc7 yc8
   have r0:=FR5 _ _ _ (show w.heap.size+1+1≠w.heap.size+1+1+1 by omega) (K4.cell 0 _ rfl)
   have r1:=FR5 _ _ _ (show w.heap.size+1+1≠w.heap.size+1+1+1 by omega) (K4.cell 1 _ rfl)
   have r2:=FR5 _ _ _ (show w.heap.size+1+1≠w.heap.size+1+1+1 by omega) (K4.cell 2 _ rfl)
   have r3:=FR5 _ _ _ (show w.heap.size+1+1≠w.heap.size+1+1+1 by omega) (K4.cell 3 _ rfl)
   have r4:=FR5 _ _ _ (show w.heap.size+1+1≠w.heap.size+1+1+1 by omega) (K4.cell 4 _ rfl)
   have r5:=FR5 _ _ _ (show w.heap.size+1+1≠w.heap.size+1+1+1 by omega) (K4.cell 5 _ rfl)
   have r6:=FR5 _ _ _ (show w.heap.size+1+1≠w.heap.size+1+1+1 by omega) (K4.cell 6 _ rfl)
   have r7:=FR5 _ _ _ (show w.heap.size+1+1≠w.heap.size+1+1+1 by omega) (K4.cell 7 _ rfl)
   have r8:=FR5 _ _ _ (show w.heap.size+1+1≠w.heap.size+1+1+1 by omega) (K4.cell 8 _ rfl)
   obtain ⟨⟨t0,t1,t2,t3,t4,t5,t6,t7,t8⟩, -⟩:=K5.c9
   clear K4 KT4
   go_wp2
   refine bodyPost_ret (v:=.tuple #[.agg #[.bool (decide (x.x.num<0)),.slice pA1 (wds x.x.num.natAbs).length pa1,.slice pB1 (wds x.x.den).length pb1,.bool (decide (x.y.num<0)),.slice pA2 (wds x.y.num.natAbs).length pa2,.slice pB2 (wds x.y.den).length pb2,.bool (decide (x.z.num<0)),.slice pA3 (wds x.z.num.natAbs).length pa3,.slice pB3 (wds x.z.den).length pb3],.agg #[.bool (decide (y.x.num<0)),.slice qA1 (wds y.x.num.natAbs).length qa1,.slice qB1 (wds y.x.den).length qb1,.bool (decide (y.y.num<0)),.slice qA2 (wds y.y.num.natAbs).length qa2,.slice qB2 (wds y.y.den).length qb2,.bool (decide (y.z.num<0)),.slice qA3 (wds y.z.num.natAbs).length qa3,.slice qB3 (wds y.z.den).length qb3],.int .i64 0]) (by simp [results,Tryz.results90,go_sem, *]) rfl ?_
   exact ⟨_,_,by rw [E.out],((vn_drew VX).keep KP4).keep KP5,((vn_drew VY).keep KP4).keep KP5,G5⟩
end Go.Proofs.YtbnbaokamccmjaaGreatDoor

/- garboardref11: Add. -/
namespace Go.Proofs.YtbnbaokamccmjaaGreatDoor
open Go Go.RowKit
end Go.Proofs.YtbnbaokamccmjaaGreatDoor
