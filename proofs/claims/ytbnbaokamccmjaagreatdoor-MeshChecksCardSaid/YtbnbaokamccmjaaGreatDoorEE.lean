/- garboardref01: Valid, trim, Small, Cmp. -/
import Derived.Test.YtbnbaokamccmjaaGreatDoorE8
import Derived.IntWalk
import Derived.Deep.CutBlock
import Derived.Deep.LoopGhost
set_option linter.unusedVariables false
set_option linter.unusedSimpArgs false
namespace Go.Proofs.YtbnbaokamccmjaaGreatDoor
open Go Go.RowKit
theorem isNat_no {l : List UInt8} (h : digs l=false) : isNat l=false:=by unfold isNat; rw [h]; rfl
theorem size_zero {s : ByteArray} (h : s.size=0) : isNat s.data.toList=false:=by
 have : s.data.toList.length=0:=by rw [toList_length]; exact h
 rw [List.length_eq_zero_iff.1 this]; rfl
set_option maxHeartbeats 1000000 in
theorem v01_zero (s : ByteArray) (hs : s.size≤9223372036854775806) (h0 : s.size=0) (w : World) :
  Calls Tryz.prog 136 #[.string s] w fun e w'=>e=.returned (.bool (isNat s.data.toList))∧w'=w:=by
 have HR : Hid (digs s.data.toList=true→isNat s.data.toList=false):=Lib.hid (fun _=>size_zero h0)
 have f1 : ((s.size : Int) == 1)=false:=beq_eq_false_iff_ne.2 (by omega)
 have f2 : ¬ (1 : Int)<(s.size : Int):=by omega
 clear h0
 go_enter Tryz.func136,Tryz.ntmps136
 go_wp2
 go_loop [3] (fun i=>∃ k : Nat,k≤s.size∧Hid (digs (s.data.toList.take k)=true)∧i=.int .i64 k) (fun i=>s.size - (intOf i).toNat)
 case atStart=>exact ⟨0,Nat.zero_le _,Lib.hid rfl,rfl⟩
 case round =>
  obtain ⟨k,hk,hd,rfl⟩:=hrel
  by_cases hlt : k<s.size
  ·have hbk:=bt_at s k
   by_cases hlo : (bt s k : Int)≤47
   ·have HH:=Lib.hid (isNat_no (digs_false hlt (.inl (show bt s k<48 by omega))))
    go_wp2
    go_ret
    exact ⟨ret_bool HH.out.symm,rfl⟩
   ·by_cases hhi : (bt s k : Int)≤57
    ·have HH:=Lib.hid (show digs (s.data.toList.take (k+1))=true by
      rw [digs_take_succ hlt,hd.out,decide_eq_true (show 48≤bt s k by omega),decide_eq_true (show bt s k≤57 by omega)]; rfl)
     go_wp2
     go_round
     case rel=>exact ⟨k+1,by omega,HH,by simp⟩
     case measure=>simp [intOf]; omega
    ·have HH:=Lib.hid (isNat_no (digs_false hlt (.inr (show 57<bt s k by omega))))
     go_wp2
     go_ret
     exact ⟨ret_bool HH.out.symm,rfl⟩
  ·obtain rfl : k=s.size:=by omega
   have HE:=hd.out
   rw [List.take_of_length_le (Nat.le_of_eq (toList_length s))] at HE
   have HF:=Lib.hid (HR.out HE)
   clear HE hd
   go_wp2
   go_ret
   exact ⟨ret_bool HF.out.symm,rfl⟩
set_option maxHeartbeats 1000000 in
theorem v01_one (s : ByteArray) (hs : s.size≤9223372036854775806) (h0 : s.size=1) (w : World) :
  Calls Tryz.prog 136 #[.string s] w fun e w'=>e=.returned (.bool (isNat s.data.toList))∧w'=w:=by
 have HR : Hid (digs s.data.toList=true→isNat s.data.toList=true):=Lib.hid (fun h=>by rw [isNat_rest (by omega) (by omega)]; exact h)
 have f1 : ((s.size : Int) == 1)=true:=beq_iff_eq.2 (by omega)
 clear h0
 go_enter Tryz.func136,Tryz.ntmps136
 go_wp2
 go_loop [3] (fun i=>∃ k : Nat,k≤s.size∧Hid (digs (s.data.toList.take k)=true)∧i=.int .i64 k) (fun i=>s.size - (intOf i).toNat)
 case atStart=>exact ⟨0,Nat.zero_le _,Lib.hid rfl,rfl⟩
 case round =>
  obtain ⟨k,hk,hd,rfl⟩:=hrel
  by_cases hlt : k<s.size
  ·have hbk:=bt_at s k
   by_cases hlo : (bt s k : Int)≤47
   ·have HH:=Lib.hid (isNat_no (digs_false hlt (.inl (show bt s k<48 by omega))))
    go_wp2
    go_ret
    exact ⟨ret_bool HH.out.symm,rfl⟩
   ·by_cases hhi : (bt s k : Int)≤57
    ·have HH:=Lib.hid (show digs (s.data.toList.take (k+1))=true by
      rw [digs_take_succ hlt,hd.out,decide_eq_true (show 48≤bt s k by omega),decide_eq_true (show bt s k≤57 by omega)]; rfl)
     go_wp2
     go_round
     case rel=>exact ⟨k+1,by omega,HH,by simp⟩
     case measure=>simp [intOf]; omega
    ·have HH:=Lib.hid (isNat_no (digs_false hlt (.inr (show 57<bt s k by omega))))
     go_wp2
     go_ret
     exact ⟨ret_bool HH.out.symm,rfl⟩
  ·obtain rfl : k=s.size:=by omega
   have HE:=hd.out
   rw [List.take_of_length_le (Nat.le_of_eq (toList_length s))] at HE
   have HF:=Lib.hid (HR.out HE)
   clear HE hd
   go_wp2
   go_ret
   exact ⟨ret_bool HF.out.symm,rfl⟩
set_option maxHeartbeats 1000000 in
theorem v01_lead (s : ByteArray) (hs : s.size≤9223372036854775806) (h1 : 1<s.size) (h0 : bt s 0=48) (w : World) :
  Calls Tryz.prog 136 #[.string s] w fun e w'=>e=.returned (.bool (isNat s.data.toList))∧w'=w:=by
 have HR : Hid (digs s.data.toList=true→isNat s.data.toList=false):=Lib.hid (fun _=>isNat_lead h1 h0)
 have f1 : ((s.size : Int) == 1)=false:=beq_eq_false_iff_ne.2 (by omega)
 have f2 : (1 : Int)<(s.size : Int):=by omega
 have hb0:=bt_at s 0
 have f3 : ((bt s 0 : Int) != 48)=false:=by rw [bne_eq_false_iff_eq]; omega
 have f4 : 0<s.size:=by omega
 clear h0
 go_enter Tryz.func136,Tryz.ntmps136
 go_wp2
 go_loop [3] (fun i=>∃ k : Nat,k≤s.size∧Hid (digs (s.data.toList.take k)=true)∧i=.int .i64 k) (fun i=>s.size - (intOf i).toNat)
 case atStart=>exact ⟨0,Nat.zero_le _,Lib.hid rfl,rfl⟩
 case round =>
  obtain ⟨k,hk,hd,rfl⟩:=hrel
  by_cases hlt : k<s.size
  ·have hbk:=bt_at s k
   by_cases hlo : (bt s k : Int)≤47
   ·have HH:=Lib.hid (isNat_no (digs_false hlt (.inl (show bt s k<48 by omega))))
    go_wp2
    go_ret
    exact ⟨ret_bool HH.out.symm,rfl⟩
   ·by_cases hhi : (bt s k : Int)≤57
    ·have HH:=Lib.hid (show digs (s.data.toList.take (k+1))=true by
      rw [digs_take_succ hlt,hd.out,decide_eq_true (show 48≤bt s k by omega),decide_eq_true (show bt s k≤57 by omega)]; rfl)
     go_wp2
     go_round
     case rel=>exact ⟨k+1,by omega,HH,by simp⟩
     case measure=>simp [intOf]; omega
    ·have HH:=Lib.hid (isNat_no (digs_false hlt (.inr (show 57<bt s k by omega))))
     go_wp2
     go_ret
     exact ⟨ret_bool HH.out.symm,rfl⟩
  ·obtain rfl : k=s.size:=by omega
   have HE:=hd.out
   rw [List.take_of_length_le (Nat.le_of_eq (toList_length s))] at HE
   have HF:=Lib.hid (HR.out HE)
   clear HE hd
   go_wp2
   go_ret
   exact ⟨ret_bool HF.out.symm,rfl⟩
set_option maxHeartbeats 1000000 in
theorem v01_more (s : ByteArray) (hs : s.size≤9223372036854775806) (h1 : 1<s.size) (h0 : bt s 0≠48) (w : World) :
  Calls Tryz.prog 136 #[.string s] w fun e w'=>e=.returned (.bool (isNat s.data.toList))∧w'=w:=by
 have HR : Hid (digs s.data.toList=true→isNat s.data.toList=true):=Lib.hid (fun h=>by rw [isNat_rest (by omega) (fun e=>h0 e.2)]; exact h)
 have f1 : ((s.size : Int) == 1)=false:=beq_eq_false_iff_ne.2 (by omega)
 have f2 : (1 : Int)<(s.size : Int):=by omega
 have hb0:=bt_at s 0
 have f3 : ((bt s 0 : Int) != 48)=true:=by rw [bne_iff_ne]; omega
 have f4 : 0<s.size:=by omega
 clear h0
 go_enter Tryz.func136,Tryz.ntmps136
 go_wp2
 go_loop [3] (fun i=>∃ k : Nat,k≤s.size∧Hid (digs (s.data.toList.take k)=true)∧i=.int .i64 k) (fun i=>s.size - (intOf i).toNat)
 case atStart=>exact ⟨0,Nat.zero_le _,Lib.hid rfl,rfl⟩
 case round =>
  obtain ⟨k,hk,hd,rfl⟩:=hrel
  by_cases hlt : k<s.size
  ·have hbk:=bt_at s k
   by_cases hlo : (bt s k : Int)≤47
   ·have HH:=Lib.hid (isNat_no (digs_false hlt (.inl (show bt s k<48 by omega))))
    go_wp2
    go_ret
    exact ⟨ret_bool HH.out.symm,rfl⟩
   ·by_cases hhi : (bt s k : Int)≤57
    ·have HH:=Lib.hid (show digs (s.data.toList.take (k+1))=true by
      rw [digs_take_succ hlt,hd.out,decide_eq_true (show 48≤bt s k by omega),decide_eq_true (show bt s k≤57 by omega)]; rfl)
     go_wp2
     go_round
     case rel=>exact ⟨k+1,by omega,HH,by simp⟩
     case measure=>simp [intOf]; omega
    ·have HH:=Lib.hid (isNat_no (digs_false hlt (.inr (show 57<bt s k by omega))))
     go_wp2
     go_ret
     exact ⟨ret_bool HH.out.symm,rfl⟩
  ·obtain rfl : k=s.size:=by omega
   have HE:=hd.out
   rw [List.take_of_length_le (Nat.le_of_eq (toList_length s))] at HE
   have HF:=Lib.hid (HR.out HE)
   clear HE hd
   go_wp2
   go_ret
   exact ⟨ret_bool HF.out.symm,rfl⟩
theorem v01_walk (s : ByteArray) (hs : s.size≤9223372036854775806) (w : World) :
  Calls Tryz.prog 136 #[.string s] w fun e w'=>e=.returned (.bool (isNat s.data.toList))∧w'=w:=by
 by_cases h0 : s.size=0
 ·exact v01_zero s hs h0 w
 ·by_cases h1 : s.size=1
  ·exact v01_one s hs h1 w
  ·by_cases h2 : bt s 0=48
   ·exact v01_lead s hs (by omega) h2 w
   ·exact v01_more s hs (by omega) h2 w
set_option maxHeartbeats 400000 in
theorem rtrim_walk (A : Option Addr) (l : List Nat) (cap : Nat) (w : World) (h : U32 w (.slice A l.length cap) l) (ho : Okw l) :
  Calls Tryz.prog 164 #[.slice A l.length cap] w fun e w'=>e=.returned (.slice A (wds (val l)).length cap)∧w'=w:=by
 obtain ⟨A',cap',hv,hn,hc,hcell⟩:=h.open
 cases hv
 go_enter Tryz.func164,Tryz.ntmps164
 go_wp2
 go_loop [0] (fun s=>∃ k : Nat,k≤l.length∧(∀ j,k≤j→j<l.length→wd l j=0)∧s=.slice A k cap) (fun s=>match s with | .slice _ n _=>n | _=>0)
 case atStart=>exact ⟨l.length,Nat.le_refl _,fun j h1 h2=>by omega,rfl⟩
 case round =>
  obtain ⟨k,hk,hz,rfl⟩:=hrel
  have hz':=Lib.hid hz
  clear hz
  by_cases h0 : k=0
  ·subst h0
   go_wp2
   go_ret
   have:=trim_len ho hk hz'.out (.inl rfl)
   exact ⟨by rw [← this]; rfl,rfl⟩
  ·obtain ⟨b,off,rfl,hcl⟩:=hcell (by omega)
   have hck:=hcl (k - 1) (by omega)
   by_cases hw : wd l (k - 1)=0
   ·have hb : ((wd l (k - 1) : Int) == 0)=true:=by rw [hw]; rfl
    go_wp2
    go_round
    case rel =>
     refine ⟨k - 1,by omega,fun j h1 h2=>?_,rfl⟩
     by_cases e : j=k - 1
     ·rw [e]; exact hw
     ·exact hz'.out j (by omega) h2
    case measure=>simp; omega
   ·have hb : ((wd l (k - 1) : Int) == 0)=false:=by simp; omega
    go_wp2
    go_ret
    have:=trim_len ho hk hz'.out (.inr hw)
    exact ⟨by rw [← this]; rfl,rfl⟩
set_option maxHeartbeats 400000 in
theorem rSmall_walk (x : Nat) (hx : x≤4294967295) (w : World) :
  Calls Tryz.prog 140 #[.int .u32 x] w (Ret fun v w'=>NumO w' w.heap.size v x∧Below w.heap.size w w'):=by
 have hx' : (x : Int)≤4294967295:=by omega
 have hx0 : (0 : Int)≤x:=by omega
 go_enter Tryz.func140,Tryz.ntmps140
 go_wp2_with fail
 have hv : val [x % wB,x / wB]=x:=by simp only [val,Nat.mul_zero,Nat.add_zero]; exact Nat.mod_add_div x wB
 have ho : Okw [x % wB,x / wB]:=Okw.cons (Nat.mod_lt _ wB_pos) (Okw.cons (by rw [Nat.div_lt_iff_lt_mul wB_pos,wB_eq]; omega) Okw.nil)
 have hcs : (#[Value.int IntKind.u32 ((x : Int) % 1000000000),Value.int IntKind.u32 ((x : Int) / 1000000000)] : Array Value)=(u32s [x % wB,x / wB]).toArray:=by
  simp [u32s,wB_eq]
 have hown : Own (w.alloc (.cells #[Value.int IntKind.u32 ((x : Int) % 1000000000),Value.int IntKind.u32 ((x : Int) / 1000000000)] 184)) w.heap.size (.slice (some ⟨w.heap.size,0,none⟩) 2 2) [x % wB,x / wB]:=by
  rw [hcs]
  exact World.ownsRow_lit (base:=w.heap.size) (size:=1) w (u32s [x % wB,x / wB]).toArray 2 (Nat.le_refl _) (by decide) rfl
 refine (rtrim_walk _ [x % wB,x / wB] 2 _ hown.u32 ho).mono ?_
 rintro e w1 ⟨rfl,rfl⟩
 have H:=hown.trim ho
 rw [hv] at H ⊢
 go_wp2
 go_ret
 exact ⟨_,rfl,H,(Below.refl _ _).alloc (Nat.le_refl _) _⟩
set_option maxHeartbeats 1000000 in
theorem rCmp_len (v u : Value) (n m : Nat) (w : World) (h : Num w v n) (g : Num w u m) (hl : (wds n).length≠(wds m).length) :
  Calls Tryz.prog 141 #[v,u] w fun e w'=>e=.returned (.int .i64 (cmpN n m))∧Below w.heap.size w w':=by
 obtain ⟨A,cap,rfl,hn,hc,hcell⟩:=h.open
 obtain ⟨B,cap',rfl,gn,gc,gcell⟩:=g.open
 have k0 : (((wds n).length : Int) != ((wds m).length : Int))=true:=by rw [bne_iff_ne]; omega
 have Hfin:=Lib.hid (cmp_by_length hl)
 by_cases hlt : ((wds n).length : Int)<((wds m).length : Int)
 ·have H2:=Lib.hid (cmpN_lt hlt)
  clear hl
  go_enter Tryz.func141,Tryz.ntmps141
  go_wp2
  go_ret
  exact ⟨ret_int (H2.out.symm.trans Hfin.out),Below.refl _ _⟩
 ·have H2:=Lib.hid (cmpN_gt (show ((wds m).length : Int)<((wds n).length : Int) by omega))
  clear hl
  go_enter Tryz.func141,Tryz.ntmps141
  go_wp2
  go_ret
  exact ⟨ret_int (H2.out.symm.trans Hfin.out),Below.refl _ _⟩
set_option maxHeartbeats 2000000 in
theorem rCmp_walk (v u : Value) (n m : Nat) (w : World) (h : Num w v n) (g : Num w u m) :
  Calls Tryz.prog 141 #[v,u] w fun e w'=>e=.returned (.int .i64 (cmpN n m))∧Below w.heap.size w w':=by
 by_cases hl : (wds n).length=(wds m).length
 case' neg=>exact rCmp_len v u n m w h g hl
 obtain ⟨A,cap,rfl,hn,hc,hcell⟩:=h.open
 obtain ⟨B,cap',rfl,gn,gc,gcell⟩:=g.open
 have k0 : (((wds n).length : Int) != ((wds m).length : Int))=false:=by rw [bne_eq_false_iff_eq]; omega
 have Hl:=Lib.hid hl
 clear hl
 go_enter Tryz.func141,Tryz.ntmps141
 go_wp2
 go_loopw [5] (fun i wr=>∃ k : Nat,k≤(wds n).length∧(∀ j,k≤j→j<(wds n).length→wd (wds n) j=wd (wds m) j)∧i=.int .i64 ((k : Int) - 1)∧Below w.heap.size w wr) (fun i _=>(intOf i+1).toNat)
 case atStart=>exact ⟨(wds n).length,Nat.le_refl _,fun j h1 h2=>by omega,rfl,Below.refl _ _⟩
 case round =>
  obtain ⟨k,hk,hz,rfl,hb⟩:=hrel
  have Hz:=Lib.hid hz
  clear hz
  have hll:=Hl.out
  by_cases h0 : k=0
  ·subst h0
   clear hll
   go_wp2
   go_ret
   have:=eq_by_words Hl.out Hz.out
   subst this
   exact ⟨(ret_int (cmpN_eq _)).symm,hb⟩
  ·obtain ⟨b,off,rfl,hcl⟩:=hcell (by omega)
   obtain ⟨b',off',rfl,gcl⟩:=gcell (by omega)
   have hck:=cell_below hb (hcl (k - 1) (by omega))
   have gck:=cell_below hb (gcl (k - 1) (by omega))
   have hkm : k≤(wds m).length:=by omega
   clear hll hcl gcl hcell gcell
   obtain ⟨j,rfl⟩ : ∃ j,k=j+1:=⟨k - 1,by omega⟩
   rw [Nat.add_sub_cancel] at hck gck
   by_cases hw : wd (wds n) j=wd (wds m) j
   ·have hb1 : decide (wd (wds n) j<wd (wds m) j)=false:=decide_eq_false (by omega)
    have hb2 : decide (wd (wds m) j<wd (wds n) j)=false:=decide_eq_false (by omega)
    have Hw:=Lib.hid hw
    clear hw
    go_wp2
    go_quiet (fail)
    go_wp2
    go_quiet (fail)
    go_wp2
    go_roundw
    case rel =>
     refine ⟨j,by omega,fun i h1 h2=>?_,by go_num,bel⟩
     by_cases e : i=j
     ·rw [e]; exact Hw.out
     ·exact Hz.out i (by omega) h2
    case measure=>simp [intOf]
   ·have hfin:=cmp_by_word Hl.out (k:=j) (by omega) (fun i a b=>Hz.out i (by omega) b) hw
    by_cases hlt : (wd (wds n) j : Int)<(wd (wds m) j : Int)
    ·have hb1 : decide (wd (wds n) j<wd (wds m) j)=true:=decide_eq_true (by omega)
     have Hfin:=Lib.hid ((cmpN_lt hlt).symm.trans hfin)
     clear hfin hw
     go_wp2
     go_quiet (fail)
     go_wp2
     go_ret
     exact ⟨ret_int Hfin.out,bel⟩
    ·have hb1 : decide (wd (wds n) j<wd (wds m) j)=false:=decide_eq_false (by omega)
     have hlt2 : (wd (wds m) j : Int)<(wd (wds n) j : Int):=by omega
     have hb2 : decide (wd (wds m) j<wd (wds n) j)=true:=decide_eq_true (by omega)
     have Hfin:=Lib.hid ((cmpN_gt hlt2).symm.trans hfin)
     clear hfin hw
     go_wp2
     go_quiet (fail)
     go_wp2
     go_quiet (fail)
     go_wp2
     go_ret
     exact ⟨ret_int Hfin.out,bel⟩
end Go.Proofs.YtbnbaokamccmjaaGreatDoor

/- garboardref01: From. -/
namespace Go.Proofs.YtbnbaokamccmjaaGreatDoor
open Go Go.RowKit
theorem bt_digit {s : ByteArray} (h : digs s.data.toList=true) {k : Nat} (hk : k<s.size) : 48≤(bt s k : Int)∧(bt s k : Int)≤57:=by
 have h' : k<s.data.toList.length:=by rw [toList_length]; exact hk
 have:=digs_mem h (List.getElem_mem h')
 unfold bt
 rw [List.getD_eq_getElem?_getD,List.getElem?_eq_getElem h']
 simp only [Option.getD_some]
 omega
def pw (l : List UInt8) (a j : Nat) : Nat:=natOf ((l.take j).drop a)
theorem pw_self (l : List UInt8) (a : Nat) : pw l a a=0:=by
 unfold pw
 rw [List.drop_of_length_le (by rw [List.length_take]; omega)]; rfl
theorem pw_succ (s : ByteArray) {a j : Nat} (h : a≤j) (hj : j<s.size) : pw s.data.toList a (j+1)=10 * pw s.data.toList a j + (bt s j - 48):=by
 have h' : j<s.data.toList.length:=by rw [toList_length]; exact hj
 unfold pw bt
 rw [List.take_succ_eq_append_getElem h',List.drop_append,List.length_take,Nat.min_eq_left (by omega),show a - j=0 by omega,List.drop_zero,natOf_append,List.getD_eq_getElem?_getD,List.getElem?_eq_getElem h']
 simp [natOf_one]
 omega
theorem pw_lt {l : List UInt8} (hd : digs l=true) {a j : Nat} (h : a≤j) (hl : j≤l.length) (h9 : j≤a+8) : pw l a j≤99999999:=by
 have h1:=natOf_lt (digs_drop (digs_take hd j) a)
 have h2 : ((l.take j).drop a).length=j - a:=by rw [List.length_drop,List.length_take,Nat.min_eq_left hl]
 rw [h2] at h1
 have h3 : (10 : Nat) ^ (j - a)≤10 ^ 8:=Nat.pow_le_pow_right (by omega) (by omega)
 have h4 : (10 : Nat) ^ 8=100000000:=by decide
 unfold pw
 omega
def FromAt (s : ByteArray) (w : World) (vv ee : Value) (wr : World) : Prop:=∃ (e : Int) (ws : List Nat),ee=.int .i64 e∧-8≤e∧e≤s.size∧ws.length+e.toNat≤100000000∧Hid (Rst s.data.toList e.toNat ws)∧Own wr w.heap.size vv ws∧Below w.heap.size w wr
set_option maxHeartbeats 2000000 in
theorem rFrom_walk (s : ByteArray) (hs : s.size≤100000000) (hd : digs s.data.toList=true) (w : World) :
  Calls Tryz.prog 139 #[.string s] w (Ret fun v w'=>NumO w' w.heap.size v (natOf s.data.toList)∧Below w.heap.size w w'):=by
 have HD:=Lib.hid hd
 clear hd
 go_enter Tryz.func139,Tryz.ntmps139
 go_wp2
 go_loopw [3,4,5,6] (fun vv ee _ _ wr=>FromAt s w vv ee wr) (fun _ ee _ _ _=>(intOf ee).toNat)
 case atStart =>
  refine ⟨s.size,[],rfl,by omega,by omega,by simp; omega,Lib.hid ?_,own_nil w _,Below.refl _ _⟩
  have:=rst_start s.data.toList
  rwa [toList_length] at this
 case round =>
  obtain ⟨e,ws,rfl,he1,he2,hk9,hst,hown,hb⟩:=hrel
  by_cases h0 : e≤0
  ·have h00 : e.toNat=0:=by omega
   have ho:=hst.out.2.1
   have hend:=rst_end (by rw [h00] at hst; exact hst.out)
   have HE:=Lib.hid hend
   have h0' : ¬ 0<e:=by omega
   clear hk9 hend h00 he2
   go_wp2_with fail
   obtain ⟨A,cap,rfl,hc1,hc2⟩:=hown.form
   refine (rtrim_walk A ws cap wr hown.u32 ho).mono ?_
   rintro e w2 ⟨rfl,rfl⟩
   have hT:=hown.trim ho
   go_wp2
   go_ret
   rw [HE.out]
   exact ⟨_,rfl,hT,hb⟩
  ·obtain ⟨k,rfl⟩ : ∃ k : Nat,e=k:=⟨e.toNat,by omega⟩
   rw [Int.toNat_natCast] at *
   have hkp : 0<k:=by omega
   have em : max (0 : Int) ((k : Int) - 9)=((k - 9 : Nat) : Int):=by omega
   have HL : Hid (k - 9≤k∧k≤k - 9+9∧(k - 9 : Nat)=((k : Int) - 9).toNat):=Lib.hid ⟨by omega,by omega,by omega⟩
   have HW:=Lib.hid (show ws.length<10000000000000 by omega)
   have hlen:=Lib.hid hst.out.1
   have hnx:=Lib.hid (rst_next HD.out hkp hst.out)
   have HK:=Lib.hid hk9
   clear hk9 h0 he1
   generalize k - 9=a at *
   go_wp2
   obtain ⟨wo,rfl⟩ : ∃ wo : World,wo=wr:=⟨_,rfl⟩
   go_loop [5,6] (fun ww ii=>∃ j : Nat,a≤j∧j≤k∧ii=.int .i64 j∧ww=.int .u32 (pw s.data.toList a j : Nat)) (fun _ ii=>k - (intOf ii).toNat)
   case atStart=>exact ⟨a,Nat.le_refl _,HL.out.1,rfl,by rw [pw_self]; rfl⟩
   case round =>
    obtain ⟨j,hj1,hj2,rfl,rfl⟩:=hrel
    by_cases hlt : j<k
    ·have hjs : j<s.size:=by omega
     have hbk:=bt_at s j
     obtain ⟨d1,d2⟩:=bt_digit HD.out hjs
     have hp:=pw_lt HD.out hj1 (by rw [toList_length]; omega) (by have:=HL.out; omega)
     have HS:=Lib.hid (pw_succ s hj1 hjs)
     generalize pw s.data.toList a j=p at *
     generalize bt s j=c at *
     go_wp2
     go_round
     case rel=>exact ⟨j+1,by omega,by omega,by go_num,by rw [HS.out]; congr 1; omega⟩
     case measure=>simp [intOf]; omega
    ·obtain rfl : j=k:=by omega
     have hown2:=hown
     have hb2:=hb
     go_wp2_with (at_builtin; refine append_word (w0:=w) w.heap.size rfl (.tmp 29) (.tmp 31) 80 rfl Tryz.underlying80 info_u32 _ ws (pw s.data.toList a j) _ rfl rfl rfl hown2 hb2 hb2.size HW.out ?_; intro v1 w1 hown1 hb1 hg1)
     have HA:=HL.out.2.2
     have hlen1:=HK.out
     have hn:=hnx.out
     go_roundw
     case rel =>
      refine ⟨(j : Int) - 9,ws++[pw s.data.toList a j],rfl,by omega,by omega, ?_, ?_,hown1,hb1⟩
      ·rw [List.length_append,List.length_singleton,← HA]; omega
      ·rw [← HA]; exact Lib.hid hn
     case measure=>simp [intOf]; omega
end Go.Proofs.YtbnbaokamccmjaaGreatDoor

/- garboardref01: Plus, Minus. -/
namespace Go.Proofs.YtbnbaokamccmjaaGreatDoor
open Go Go.RowKit
theorem preN_step (l : List Nat) (j : Nat) : preN l (j+1)=preN l j+wB ^ j * wd l j:=by
 by_cases h : j<l.length
 ·exact preN_succ h
 ·rw [preN_all (by omega),preN_all (by omega),wd_out h,Nat.mul_zero,Nat.add_zero]
def Psum (n m : Nat) (l : List Nat) (c : Nat) : Prop:=Okw l∧c≤1∧val l+wB ^ l.length * c=preN (wds n) l.length+preN (wds m) l.length
theorem psum_start (n m : Nat) : Psum n m [] 0:=⟨Okw.nil,by omega,by simp [val,preN_zero]⟩
theorem psum_next {n m : Nat} {l : List Nat} {c s : Nat} (h : Psum n m l c) (hs : s=c+wd (wds n) l.length+wd (wds m) l.length) : Psum n m (l++[s % wB]) (s / wB):=by
 obtain ⟨h1,h2,h3⟩:=h
 have hx:=(okw_wds n).get l.length
 have hy:=(okw_wds m).get l.length
 change wd _ _<_ at hx
 change wd _ _<_ at hy
 refine ⟨h1.append (Okw.cons (Nat.mod_lt _ wB_pos) Okw.nil), ?_, ?_⟩
 ·have : s / wB<2:=by rw [Nat.div_lt_iff_lt_mul wB_pos]; omega
  omega
 ·rw [val_snoc,List.length_append,List.length_singleton,preN_step,preN_step]
  have e1 : wB ^ l.length * (s % wB)+wB ^ (l.length+1) * (s / wB)=wB ^ l.length * s:=by
   rw [Nat.pow_succ,Nat.mul_assoc,← Nat.mul_add,Nat.mod_add_div]
  have e2 : wB ^ l.length * s=wB ^ l.length * c+wB ^ l.length * wd (wds n) l.length+wB ^ l.length * wd (wds m) l.length:=by rw [hs,Nat.mul_add,Nat.mul_add]
  omega
theorem psum_end {n m : Nat} {l : List Nat} (h : Psum n m l 0) (h1 : (wds n).length≤l.length) (h2 : (wds m).length≤l.length) : val l=n+m:=by
 have:=h.2.2
 rw [preN_all h1,preN_all h2,val_wds,val_wds] at this
 omega
def Pdif (n m : Nat) (l : List Nat) (b : Nat) : Prop:=Okw l∧b≤1∧val l+preN (wds m) l.length=preN (wds n) l.length+wB ^ l.length * b
theorem pdif_start (n m : Nat) : Pdif n m [] 0:=⟨Okw.nil,by omega,by simp [val,preN_zero]⟩
theorem pdif_enough {n m : Nat} {l : List Nat} {b d : Nat} (h : Pdif n m l b) (hd : d+b+wd (wds m) l.length=wd (wds n) l.length) : Pdif n m (l++[d]) 0:=by
 obtain ⟨h1,h2,h3⟩:=h
 have hx:=(okw_wds n).get l.length
 change wd _ _<_ at hx
 refine ⟨h1.append (Okw.cons (by omega) Okw.nil),by omega, ?_⟩
 rw [val_snoc,List.length_append,List.length_singleton,preN_step,preN_step]
 have e2 : wB ^ l.length * wd (wds n) l.length=wB ^ l.length * d+wB ^ l.length * b+wB ^ l.length * wd (wds m) l.length:=by rw [← hd,Nat.mul_add,Nat.mul_add]
 omega
theorem pdif_borrow {n m : Nat} {l : List Nat} {b d : Nat} (h : Pdif n m l b) (hd : d+b+wd (wds m) l.length=wd (wds n) l.length+wB) (hlt : d<wB) : Pdif n m (l++[d]) 1:=by
 obtain ⟨h1,h2,h3⟩:=h
 refine ⟨h1.append (Okw.cons hlt Okw.nil),by omega, ?_⟩
 rw [val_snoc,List.length_append,List.length_singleton,preN_step,preN_step,Nat.pow_succ]
 have e2 : wB ^ l.length * d+wB ^ l.length * b+wB ^ l.length * wd (wds m) l.length=wB ^ l.length * wd (wds n) l.length+wB ^ l.length * wB:=by rw [← Nat.mul_add,← Nat.mul_add,hd,Nat.mul_add]
 omega
theorem pdif_end {n m : Nat} {l : List Nat} {b : Nat} (h : Pdif n m l b) (hle : m≤n) (h1 : l.length=(wds n).length) : val l=n - m:=by
 obtain ⟨ho,hb,h3⟩:=h
 have hm : (wds m).length≤l.length:=by rw [h1]; exact wds_mono_length hle
 rw [preN_all (by omega),preN_all (by omega),val_wds,val_wds] at h3
 have:=val_lt ho
 rcases Nat.eq_zero_or_pos b with e | e
 ·subst e; omega
 ·have : b=1:=by omega
  subst this
  omega
theorem w3 (c x y : Nat) : Value.int .u32 (((c : Int) + (x : Int) + (y : Int)) % 1000000000)=.int .u32 (((c+x+y) % wB : Nat) : Int):=by
 rw [wB_eq]; congr 1
theorem w3d (c x y : Nat) : Value.int .u32 (((c : Int) + (x : Int) + (y : Int)) / 1000000000)=.int .u32 (((c+x+y) / wB : Nat) : Int):=by
 rw [wB_eq]; congr 1
theorem w2 (c x : Nat) : Value.int .u32 (((c : Int) + (x : Int)) % 1000000000)=.int .u32 (((c+x) % wB : Nat) : Int):=by
 rw [wB_eq]; congr 1
theorem w2d (c x : Nat) : Value.int .u32 (((c : Int) + (x : Int)) / 1000000000)=.int .u32 (((c+x) / wB : Nat) : Int):=by
 rw [wB_eq]; congr 1
set_option maxRecDepth 100000 in
set_option maxHeartbeats 4000000 in
theorem rPlus_walk (v u : Value) (n m : Nat) (w : World) (h : Num w v n) (g : Num w u m) (hf : (wds n).length≤1000000000) (gf : (wds m).length≤1000000000) :
  Calls Tryz.prog 168 #[v,u] w (Ret fun v' w'=>NumO w' w.heap.size v' (n+m)∧Below w.heap.size w w'):=by
 obtain ⟨A,cap,rfl,hn,hc,hcell⟩:=h.open
 obtain ⟨B,cap',rfl,gn,gc,gcell⟩:=g.open
 clear h g
 go_enter Tryz.func168,Tryz.ntmps168
 go_wp2
 go_loopw [5,6,7] (fun vv cc kk wr=>∃ (l : List Nat) (c : Nat),l.length≤max (wds n).length (wds m).length+1∧(l.length=max (wds n).length (wds m).length+1→c=0)∧Own wr w.heap.size vv l∧Psum n m l c∧cc=.int .u32 c∧kk=.int .i64 l.length∧Below w.heap.size w wr) (fun _ _ kk _=>max (wds n).length (wds m).length+1 - (intOf kk).toNat)
 case atStart=>exact ⟨[],0,by simp,fun _=>rfl,own_nil w _,psum_start _ _,rfl,rfl,Below.refl _ _⟩
 case round =>
  obtain ⟨l,c,hk,hkc,hown,hsum,rfl,rfl,hb⟩:=hrel
  have hc1 : (c : Int)≤1:=by have:=hsum.2.1; omega
  have hw1 : (wd (wds n) l.length : Int)≤999999999:=word_lt (okw_wds n) _
  have hw2 : (wd (wds m) l.length : Int)≤999999999:=word_lt (okw_wds m) _
  have HK:=Lib.hid hk
  have HKC:=Lib.hid hkc
  clear hk hkc
  by_cases hlt1 : l.length<(wds n).length
  ·obtain ⟨b,off,rfl,hcl⟩:=hcell (by omega)
   have hck:=cell_below hb (hcl l.length hlt1)
   clear hcl hcell
   by_cases hlt2 : l.length<(wds m).length
   ·obtain ⟨b',off',rfl,gcl⟩:=gcell (by omega)
    have gck:=cell_below hb (gcl l.length hlt2)
    clear gcl gcell
    have HN:=Lib.hid (psum_next hsum (s:=c+wd (wds n) l.length+wd (wds m) l.length) rfl)
    clear hsum
    go_wp2_with (at_builtin; refine append_word (w0:=w) w.heap.size rfl (.tmp 46) (.tmp 49) 80 rfl Tryz.underlying80 info_u32 _ l ((c+wd (wds n) l.length+wd (wds m) l.length) % wB) _ (w3 _ _ _) rfl rfl hown hb hb.size (by omega) ?_; intro v1 w1 hown1 hb1 hg1)
    go_roundw
    case rel=>exact ⟨_,_,by rw [List.length_append,List.length_singleton]; omega,fun e=>by rw [List.length_append,List.length_singleton] at e; omega,hown1,HN.out,w3d _ _ _,by rw [List.length_append,List.length_singleton]; go_num,hb1⟩
    case measure=>simp [intOf]; omega
   ·have HN:=Lib.hid (psum_next hsum (s:=c+wd (wds n) l.length) (by rw [wd_out hlt2,Nat.add_zero]))
    clear hsum
    go_wp2_with (at_builtin; refine append_word (w0:=w) w.heap.size rfl (.tmp 46) (.tmp 49) 80 rfl Tryz.underlying80 info_u32 _ l ((c+wd (wds n) l.length) % wB) _ (w2 _ _) rfl rfl hown hb hb.size (by omega) ?_; intro v1 w1 hown1 hb1 hg1)
    go_roundw
    case rel=>exact ⟨_,_,by rw [List.length_append,List.length_singleton]; omega,fun e=>by rw [List.length_append,List.length_singleton] at e; omega,hown1,HN.out,w2d _ _,by rw [List.length_append,List.length_singleton]; go_num,hb1⟩
    case measure=>simp [intOf]; omega
  ·by_cases hlt2 : l.length<(wds m).length
   ·obtain ⟨b',off',rfl,gcl⟩:=gcell (by omega)
    have gck:=cell_below hb (gcl l.length hlt2)
    clear gcl gcell
    have HN:=Lib.hid (psum_next hsum (s:=c+wd (wds m) l.length) (by rw [wd_out hlt1,Nat.add_zero]))
    clear hsum
    go_wp2_with (at_builtin; refine append_word (w0:=w) w.heap.size rfl (.tmp 46) (.tmp 49) 80 rfl Tryz.underlying80 info_u32 _ l ((c+wd (wds m) l.length) % wB) _ (w2 _ _) rfl rfl hown hb hb.size (by omega) ?_; intro v1 w1 hown1 hb1 hg1)
    go_roundw
    case rel=>exact ⟨_,_,by rw [List.length_append,List.length_singleton]; omega,fun e=>by rw [List.length_append,List.length_singleton] at e; omega,hown1,HN.out,w2d _ _,by rw [List.length_append,List.length_singleton]; go_num,hb1⟩
    case measure=>simp [intOf]; omega
   ·have HL:=Lib.hid (show (wds n).length≤l.length∧(wds m).length≤l.length by omega)
    by_cases hcz : c=0
    ·subst hcz
     have ho:=hsum.1
     have HE:=Lib.hid (psum_end hsum HL.out.1 HL.out.2)
     clear hsum
     go_wp2_with fail
     obtain ⟨A1,cap1,rfl,_,_⟩:=hown.form
     refine (rtrim_walk A1 l cap1 wr hown.u32 ho).mono ?_
     rintro e w2 ⟨rfl,rfl⟩
     have hT:=hown.trim ho
     go_wp2
     go_ret
     rw [HE.out] at hT ⊢
     exact ⟨_,rfl,hT,hb⟩
    ·obtain rfl : c=1:=by omega
     have HN:=Lib.hid (psum_next hsum (s:=1) (by rw [wd_out hlt1,wd_out hlt2]))
     have HM:=Lib.hid (show l.length≠max (wds n).length (wds m).length+1 from fun e=>by have:=HKC.out e; omega)
     have hl9 : l.length<10000000000000:=by have:=HK.out; omega
     clear hsum hcz
     go_wp2_with (at_builtin; refine append_word (w0:=w) w.heap.size rfl (.tmp 46) (.tmp 49) 80 rfl Tryz.underlying80 info_u32 _ l 1 _ rfl rfl rfl hown hb hb.size (by omega) ?_; intro v1 w1 hown1 hb1 hg1)
     have hn1:=HN.out
     rw [show 1 % wB=1 from by decide,show 1 / wB=0 from by decide] at hn1
     go_roundw
     case rel=>exact ⟨_,_,by rw [List.length_append,List.length_singleton]; have:=HK.out; have:=HM.out; omega,fun e=>rfl,hown1,hn1,rfl,by rw [List.length_append,List.length_singleton]; go_num,hb1⟩
     case measure=>have:=HK.out; have:=HM.out; simp [intOf]; omega
set_option maxRecDepth 100000 in
set_option maxHeartbeats 4000000 in
theorem rMinus_walk (v u : Value) (n m : Nat) (hle : m≤n) (w : World) (h : Num w v n) (g : Num w u m) (hf : (wds n).length≤1000000000) :
  Calls Tryz.prog 169 #[v,u] w (Ret fun v' w'=>NumO w' w.heap.size v' (n - m)∧Below w.heap.size w w'):=by
 obtain ⟨A,cap,rfl,hn,hc,hcell⟩:=h.open
 obtain ⟨B,cap',rfl,gn,gc,gcell⟩:=g.open
 have HLE:=Lib.hid hle
 clear h g hle
 go_enter Tryz.func169,Tryz.ntmps169
 go_wp2
 go_loopw [5,6,7] (fun vv cc kk wr=>∃ (l : List Nat) (c : Nat),l.length≤(wds n).length∧Own wr w.heap.size vv l∧Pdif n m l c∧cc=.int .i64 c∧kk=.int .i64 l.length∧Below w.heap.size w wr) (fun _ _ kk _=>(wds n).length - (intOf kk).toNat)
 case atStart=>exact ⟨[],0,by simp,own_nil w _,pdif_start _ _,rfl,rfl,Below.refl _ _⟩
 case round =>
  obtain ⟨l,c,hk,hown,hdif,rfl,rfl,hb⟩:=hrel
  have hc1 : (c : Int)≤1:=by have:=hdif.2.1; omega
  have hw1 : (wd (wds n) l.length : Int)≤999999999:=word_lt (okw_wds n) _
  have hw2 : (wd (wds m) l.length : Int)≤999999999:=word_lt (okw_wds m) _
  have HK:=Lib.hid hk
  clear hk
  by_cases hlt1 : l.length<(wds n).length
  ·obtain ⟨b,off,rfl,hcl⟩:=hcell (by omega)
   have hck:=cell_below hb (hcl l.length hlt1)
   clear hcl hcell
   by_cases hlt2 : l.length<(wds m).length
   ·obtain ⟨b',off',rfl,gcl⟩:=gcell (by omega)
    have gck:=cell_below hb (gcl l.length hlt2)
    clear gcl gcell
    have HW:=Lib.hid (rfl : wd (wds m) l.length=wd (wds m) l.length)
    obtain ⟨x,hx⟩ : ∃ x,x=wd (wds n) l.length:=⟨_,rfl⟩
    obtain ⟨y,hy⟩ : ∃ y,y=wd (wds m) l.length:=⟨_,rfl⟩
    have HX:=Lib.hid hx
    have HY:=Lib.hid hy
    rw [← hx] at hck hw1
    rw [← hy] at gck hw2
    clear hx hy
    by_cases hneg : (x : Int) - c - y<0
    ·obtain ⟨d,hd⟩ : ∃ d : Nat,d=x+1000000000 - c - y:=⟨_,rfl⟩
     have hdI : (x : Int) - c - y+1000000000=d:=by omega
     have HN:=Lib.hid (pdif_borrow hdif (d:=d) (by rw [← HX.out,← HY.out,wB_eq]; omega) (by rw [wB_eq]; omega))
     have hd1 : (d : Int)≤999999999:=by omega
     clear hdif hd
     go_wp2_with (at_builtin; refine append_word (w0:=w) w.heap.size rfl (.tmp 37) (.tmp 40) 80 rfl Tryz.underlying80 info_u32 _ l d _ rfl rfl rfl hown hb hb.size (by omega) ?_; intro v1 w1 hown1 hb1 hg1)
     go_roundw
     case rel=>exact ⟨_,_,by rw [List.length_append,List.length_singleton]; omega,hown1,HN.out,rfl,by rw [List.length_append,List.length_singleton]; go_num,hb1⟩
     case measure=>simp [intOf]; omega
    ·obtain ⟨d,hd⟩ : ∃ d : Nat,d=x - c - y:=⟨_,rfl⟩
     have hdI : (x : Int) - c - y=d:=by omega
     have HN:=Lib.hid (pdif_enough hdif (d:=d) (by rw [← HX.out,← HY.out]; omega))
     have hd1 : (d : Int)≤999999999:=by omega
     clear hdif hd hneg
     go_wp2_with (at_builtin; refine append_word (w0:=w) w.heap.size rfl (.tmp 37) (.tmp 40) 80 rfl Tryz.underlying80 info_u32 _ l d _ rfl rfl rfl hown hb hb.size (by omega) ?_; intro v1 w1 hown1 hb1 hg1)
     go_roundw
     case rel=>exact ⟨_,_,by rw [List.length_append,List.length_singleton]; omega,hown1,HN.out,rfl,by rw [List.length_append,List.length_singleton]; go_num,hb1⟩
     case measure=>simp [intOf]; omega
   ·have HY:=Lib.hid (wd_out hlt2)
    obtain ⟨x,hx⟩ : ∃ x,x=wd (wds n) l.length:=⟨_,rfl⟩
    have HX:=Lib.hid hx
    rw [← hx] at hck hw1
    clear hx hw2
    by_cases hneg : (x : Int) - c<0
    ·obtain ⟨d,hd⟩ : ∃ d : Nat,d=x+1000000000 - c:=⟨_,rfl⟩
     have hdI : (x : Int) - c+1000000000=d:=by omega
     have HN:=Lib.hid (pdif_borrow hdif (d:=d) (by rw [← HX.out,HY.out,wB_eq]; omega) (by rw [wB_eq]; omega))
     have hd1 : (d : Int)≤999999999:=by omega
     clear hdif hd
     go_wp2_with (at_builtin; refine append_word (w0:=w) w.heap.size rfl (.tmp 37) (.tmp 40) 80 rfl Tryz.underlying80 info_u32 _ l d _ rfl rfl rfl hown hb hb.size (by omega) ?_; intro v1 w1 hown1 hb1 hg1)
     go_roundw
     case rel=>exact ⟨_,_,by rw [List.length_append,List.length_singleton]; omega,hown1,HN.out,rfl,by rw [List.length_append,List.length_singleton]; go_num,hb1⟩
     case measure=>simp [intOf]; omega
    ·obtain ⟨d,hd⟩ : ∃ d : Nat,d=x - c:=⟨_,rfl⟩
     have hdI : (x : Int) - c=d:=by omega
     have HN:=Lib.hid (pdif_enough hdif (d:=d) (by rw [← HX.out,HY.out]; omega))
     have hd1 : (d : Int)≤999999999:=by omega
     clear hdif hd hneg
     go_wp2_with (at_builtin; refine append_word (w0:=w) w.heap.size rfl (.tmp 37) (.tmp 40) 80 rfl Tryz.underlying80 info_u32 _ l d _ rfl rfl rfl hown hb hb.size (by omega) ?_; intro v1 w1 hown1 hb1 hg1)
     go_roundw
     case rel=>exact ⟨_,_,by rw [List.length_append,List.length_singleton]; omega,hown1,HN.out,rfl,by rw [List.length_append,List.length_singleton]; go_num,hb1⟩
     case measure=>simp [intOf]; omega
  ·have HE:=Lib.hid (pdif_end hdif HLE.out (by have:=HK.out; omega))
   have ho:=hdif.1
   clear hdif
   go_wp2_with fail
   obtain ⟨A1,cap1,rfl,_,_⟩:=hown.form
   refine (rtrim_walk A1 l cap1 wr hown.u32 ho).mono ?_
   rintro e w2 ⟨rfl,rfl⟩
   have hT:=hown.trim ho
   go_wp2
   go_ret
   rw [HE.out] at hT ⊢
   exact ⟨_,rfl,hT,hb⟩
end Go.Proofs.YtbnbaokamccmjaaGreatDoor

/- garboardref01: Times. -/
namespace Go.Proofs.YtbnbaokamccmjaaGreatDoor
open Go Go.RowKit
theorem u64_in {x : Int} (h0 : 0≤x) (h1 : x≤18446744073709551615) : IntKind.u64.wrap x=x:=by
 rw [IntKind.wrap_u64]; omega
theorem w3q (c x y : Nat) : Value.int .u64 (((c : Int) + (x : Int) + (y : Int)) / 1000000000)=.int .u64 (((c+x+y) / wB : Nat) : Int):=by
 rw [wB_eq]; congr 1
theorem numO_nil (w : World) (base : Nat) : NumO w base (.slice none 0 0) 0:=by
 unfold NumO
 rw [wds_zero]
 exact own_nil w base
set_option maxRecDepth 100000 in
set_option maxHeartbeats 4000000 in
theorem rTimes_pos (v u : Value) (n m : Nat) (w : World) (h : Num w v n) (g : Num w u m) (hf : (wds n).length≤1000000000) (gf : (wds m).length≤1000000000) (hn0 : 0<(wds n).length) (hm0 : 0<(wds m).length) :
  Calls Tryz.prog 146 #[v,u] w (Ret fun v' w'=>NumO w' w.heap.size v' (n * m)∧Below w.heap.size w w'):=by
 obtain ⟨A,cap,rfl,hn,hc,hcell⟩:=h.open
 obtain ⟨B,cap',rfl,gn,gc,gcell⟩:=g.open
 clear h g
 have z1 : (((wds n).length : Int) == 0)=false:=beq_eq_false_iff_ne.2 (by omega)
 have z2 : (((wds m).length : Int) == 0)=false:=beq_eq_false_iff_ne.2 (by omega)
 have hmk:=fun W=>make_full 80 Tryz.underlying80 (((wds n).length : Int) + (wds m).length) ((wds n).length + (wds m).length) (by omega) (by omega) W
 go_enter Tryz.func146,Tryz.ntmps146
 go_wp2
 have hmade:=own_made w ((wds n).length + (wds m).length) (by omega)
 clear hmk z1 z2
 go_loopw [6] (fun ii wr=>∃ (i : Nat) (l : List Nat),i≤(wds n).length∧ii=.int .i64 i∧Mrow (wds n) (wds m) i l∧Own wr w.heap.size (.slice (some ⟨w.heap.size,0,none⟩) l.length ((wds n).length + (wds m).length)) l∧Below w.heap.size w wr) (fun ii _=>(wds n).length - (intOf ii).toNat)
 case atStart =>
  refine ⟨0,_,Nat.zero_le _,rfl,mrow_start _ _, ?_,(Below.refl _ _).alloc (Nat.le_refl _) _⟩
  rw [List.length_replicate]
  exact hmade
 case round =>
  obtain ⟨i,l,hi,rfl,hrow,hown,hb⟩:=hrel
  clear hmade
  by_cases hlt : i<(wds n).length
  ·obtain ⟨b,off,rfl,hcl⟩:=hcell (by omega)
   have HCK:=Lib.hid (hcl i hlt)
   clear hcl hcell
   obtain ⟨wo,rfl⟩ : ∃ wo : World,wo=wr:=⟨_,rfl⟩
   have hx1 : (wd (wds n) i : Int)≤999999999:=word_lt (okw_wds n) i
   go_wp2
   go_loopw [7,8] (fun cc kk wr=>∃ (k : Nat) (l : List Nat) (c : Nat),k≤(wds m).length∧cc=.int .u64 c∧kk=.int .i64 k∧Mcol (wds n) (wds m) i k l c∧Own wr w.heap.size (.slice (some ⟨w.heap.size,0,none⟩) l.length ((wds n).length + (wds m).length)) l∧Below w.heap.size w wr) (fun _ kk _=>(wds m).length - (intOf kk).toNat)
   case atStart=>exact ⟨0,l,0,Nat.zero_le _,rfl,rfl,mcol_start hrow,hown,hb⟩
   case round =>
    clear hown hb hrow
    obtain ⟨k,l,c,hk,rfl,rfl,hcol,hown,hb⟩:=hrel
    have hl:=hcol.1
    have hc9 : (c : Int)≤999999999:=by have:=hcol.2.2.1; omega
    by_cases hlt2 : k<(wds m).length
    ·obtain ⟨b',off',rfl,gcl⟩:=gcell (by omega)
     have gck:=cell_below hb (gcl k hlt2)
     have hak:=cell_below hb HCK.out
     have hck:=hown.cell (i+k) (by omega)
     have hfr:=hown.free (i+k)
     have hy1 : (wd (wds m) k : Int)≤999999999:=word_lt (okw_wds m) k
     have hz1 : (wd l (i+k) : Int)≤999999999:=word_lt hcol.2.1 _
     obtain ⟨p,hp⟩ : ∃ p,p=wd (wds n) i * wd (wds m) k:=⟨_,rfl⟩
     have hp1 : (p : Int)≤999999998000000001:=by
      have : wd (wds n) i * wd (wds m) k≤999999999 * 999999999:=Nat.mul_le_mul (by omega) (by omega)
      omega
     have hpI : (wd (wds n) i : Int) * (wd (wds m) k : Int)=p:=by rw [hp,Int.natCast_mul]
     have hN:=Lib.hid (mcol_next hcol (okw_wds n) (okw_wds m) hlt hlt2 (s:=c+p+wd l (i+k)) (by rw [hp]))
     have hl1 : i+k<(wds n).length + (wds m).length:=by omega
     have hl2 : i+k<l.length:=by omega
     have HL:=Lib.hid hl
     have HO:=Lib.hid hown
     clear gcl gcell hp hcol hl hown
     generalize hgx : wd (wds n) i=x at *
     generalize hgy : wd (wds m) k=y at *
     generalize hgz : wd l (i+k)=z at *
     have HGX:=Lib.hid hgx
     have HGY:=Lib.hid hgy
     have HGZ:=Lib.hid hgz
     clear hgx hgy hgz
     have e0 : IntKind.i64.wrap ((i : Int) + (k : Int))=(i : Int) + (k : Int):=IntWalk.i64_in _ (by omega)
     have e1 : (0 : Int)≤(i : Int) + (k : Int):=by omega
     have e2 : ((i : Int) + (k : Int)).toNat=i+k:=by omega
     have s1 : IntKind.u64.wrap (p : Int)=p:=u64_in (by omega) (by omega)
     have s2 : IntKind.u64.wrap ((z : Int) + (p : Int))=(z : Int) + (p : Int):=u64_in (by omega) (by omega)
     have s3 : IntKind.u64.wrap ((z : Int) + (p : Int) + (c : Int))=((c+p+z : Nat) : Int):=by rw [u64_in (by omega) (by omega)]; omega
     go_wp2
     go_quiet (fail)
     clear s1 s2 s3 e0 e1 e2 hpI
     go_wp2
     have HS:=(HO.out.below (below_drewN (Below.refl _ _) nq)).set (i+k) ((c+p+z) % wB)
     rw [w3]
     have hN2:=hN.out
     go_roundw
     case rel=>exact ⟨k+1,_,_,by omega,w3q _ _ _,by go_num,hN2,by rw [List.length_set] at *; exact HS,(below_drewN hb _).setCell (Nat.le_refl _) _⟩
     case measure=>simp [intOf]; omega
    ·obtain rfl : k=(wds m).length:=by omega
     have hl1 : i + (wds m).length<(wds n).length + (wds m).length:=by omega
     have hck:=hown.cell (i + (wds m).length) (by omega)
     have hfr:=hown.free (i + (wds m).length)
     have hN:=Lib.hid (mcol_end hcol hlt)
     have HL:=Lib.hid hl
     have HO:=Lib.hid hown
     clear hcol hl hown
     go_wp2
     have HS:=HO.out.set (i + (wds m).length) c
     go_roundw
     case rel=>exact ⟨i+1,_,by omega,by go_num,hN.out,by rw [List.length_set] at *; exact HS,hb.setCell (Nat.le_refl _) _⟩
     case measure=>simp [intOf]; omega
  ·obtain rfl : i=(wds n).length:=by omega
   obtain ⟨h1,h2,h3,h4⟩:=hrow
   rw [preN_all (Nat.le_refl _),val_wds,val_wds] at h3
   have H3:=Lib.hid h3
   have H4:=Lib.hid h4
   have H1:=Lib.hid h1
   clear h3 h4 h1
   go_wp2_with fail
   rw [← H1.out] at hown ⊢
   refine (rtrim_walk _ l _ wr hown.u32 h2).mono ?_
   rintro e w2 ⟨rfl,rfl⟩
   go_wp2
   go_ret
   have:=hown.trim h2
   rw [H3.out] at this ⊢
   exact ⟨_,rfl,this,hb⟩
set_option maxHeartbeats 400000 in
theorem rTimes_walk (v u : Value) (n m : Nat) (w : World) (h : Num w v n) (g : Num w u m) (hf : (wds n).length≤1000000000) (gf : (wds m).length≤1000000000) :
  Calls Tryz.prog 146 #[v,u] w (Ret fun v' w'=>NumO w' w.heap.size v' (n * m)∧Below w.heap.size w w'):=by
 by_cases hn0 : 0<(wds n).length
 ·by_cases hm0 : 0<(wds m).length
  ·exact rTimes_pos v u n m w h g hf gf hn0 hm0
  ·obtain ⟨A,cap,rfl,hn,hc,hcell⟩:=h.open
   obtain ⟨B,cap',rfl,gn,gc,gcell⟩:=g.open
   have z1 : (((wds n).length : Int) == 0)=false:=beq_eq_false_iff_ne.2 (by omega)
   have z2 : (((wds m).length : Int) == 0)=true:=beq_iff_eq.2 (by omega)
   have hm : m=0:=wds_eq_nil.1 (List.length_eq_zero_iff.1 (by omega))
   have HM : Hid (n * m=0):=Lib.hid (by rw [hm,Nat.mul_zero])
   clear hm
   go_enter Tryz.func146,Tryz.ntmps146
   go_wp2
   go_ret
   rw [HM.out]
   exact ⟨_,rfl,numO_nil w _,Below.refl _ _⟩
 ·obtain ⟨A,cap,rfl,hn,hc,hcell⟩:=h.open
  obtain ⟨B,cap',rfl,gn,gc,gcell⟩:=g.open
  have z1 : (((wds n).length : Int) == 0)=true:=beq_iff_eq.2 (by omega)
  have hm : n=0:=wds_eq_nil.1 (List.length_eq_zero_iff.1 (by omega))
  have HM : Hid (n * m=0):=Lib.hid (by rw [hm,Nat.zero_mul])
  clear hm
  go_enter Tryz.func146,Tryz.ntmps146
  go_wp2
  go_ret
  rw [HM.out]
  exact ⟨_,rfl,numO_nil w _,Below.refl _ _⟩
end Go.Proofs.YtbnbaokamccmjaaGreatDoor

/- garboardref01: small: the quotient and the remainder by one word. -/
namespace Go.Proofs.YtbnbaokamccmjaaGreatDoor
open Go Go.RowKit
set_option maxRecDepth 100000 in
set_option maxHeartbeats 4000000 in
theorem rsmall_walk (v : Value) (n d : Nat) (hd0 : 0<d) (hd : d≤999999999) (w : World) (h : Num w v n) (hf : (wds n).length≤2000000000) :
  Calls Tryz.prog 187 #[v,.int .u32 d] w (Ret2 fun v1 v2 w'=>NumO w' w.heap.size v1 (n / d)∧v2=.int .u32 (n % d : Nat)∧Below w.heap.size w w'):=by
 obtain ⟨A,cap,rfl,hn,hc,hcell⟩:=h.open
 clear h
 have hmk:=fun W=>make_full 80 Tryz.underlying80 ((wds n).length : Int) (wds n).length (by omega) (by omega) W
 have hdI : (1 : Int)≤d:=by omega
 have hdI2 : (d : Int)≤999999999:=by omega
 go_enter Tryz.func187,Tryz.ntmps187
 go_wp2
 have hmade:=own_made w (wds n).length (by omega)
 clear hmk
 go_loopw [7,8] (fun rr ii wr=>∃ (k : Nat) (l : List Nat) (r : Nat),k≤(wds n).length∧rr=.int .u64 r∧ii=.int .i64 ((k : Int) - 1)∧Bdiv (wds n) d k l r∧Own wr w.heap.size (.slice (some ⟨w.heap.size,0,none⟩) l.length (wds n).length) l∧Below w.heap.size w wr) (fun _ ii _=>(intOf ii+1).toNat)
 case atStart =>
  refine ⟨_,_,0,Nat.le_refl _,rfl,rfl,bdiv_start _ hd0, ?_,(Below.refl _ _).alloc (Nat.le_refl _) _⟩
  rw [List.length_replicate]
  exact hmade
 case round =>
  obtain ⟨k,l,r,hk,rfl,rfl,hdiv,hown,hb⟩:=hrel
  clear hmade
  by_cases h0 : k=0
  ·subst h0
   obtain ⟨e1,e2⟩:=bdiv_end hdiv hd0
   rw [val_wds] at e1 e2
   have H1:=Lib.hid hdiv.1
   have E1:=Lib.hid e1
   have E2:=Lib.hid e2
   have ho:=hdiv.2.1
   have hr : (r : Int)≤999999999:=by have:=hdiv.2.2.1; omega
   clear hdiv e1 e2
   go_wp2_with fail
   rw [← H1.out] at hown ⊢
   refine (rtrim_walk _ l _ wr hown.u32 ho).mono ?_
   rintro e w2 ⟨rfl,rfl⟩
   go_wp2
   go_ret2
   have:=hown.trim ho
   rw [E1.out] at this ⊢
   exact ⟨_,_,rfl,this,by rw [← E2.out]; rfl,hb⟩
  ·obtain ⟨j,rfl⟩ : ∃ j,k=j+1:=⟨k - 1,by omega⟩
   obtain ⟨b,off,rfl,hcl⟩:=hcell (by omega)
   have hck:=cell_below hb (hcl j (by omega))
   have hl:=hdiv.1
   have hfr:=hown.free j
   have hcc:=hown.cell j (by omega)
   have hx1 : (wd (wds n) j : Int)≤999999999:=word_lt (okw_wds n) j
   have hr1 : (r : Int)≤999999999:=by have:=hdiv.2.2.1; omega
   obtain ⟨hnx,hq⟩:=bdiv_next hdiv hd (okw_wds n) (by omega) (s:=r * wB+wd (wds n) j) rfl
   have hN:=Lib.hid hnx
   have hQ:=Lib.hid hq
   have HL:=Lib.hid hl
   have HO:=Lib.hid hown
   have hjl : j<(wds n).length:=by omega
   clear hcl hcell hdiv hl hown hnx hq
   go_wp2
   rw [word_quo _ _ _ hQ.out]
   have HS:=HO.out.set j ((r * wB+wd (wds n) j) / d)
   go_roundw
   case rel=>exact ⟨j,_,_,by omega,word_rem _ _ _,rfl,hN.out,by rw [List.length_set] at *; exact HS,hb.setCell (Nat.le_refl _) _⟩
   case measure=>simp [intOf]
end Go.Proofs.YtbnbaokamccmjaaGreatDoor

/- garboardref01: reduce: one step of the long division. -/
namespace Go.Proofs.YtbnbaokamccmjaaGreatDoor
open Go Go.RowKit
theorem madd_shift {l1 v l : List Nat} {j i c p y : Nat} (h : Madd (l1.set p y) v j i l c) (hp : j+i≤p) (hpl : p<l1.length) (ho : Okw l1) : Madd l1 v j i (l.set p (wd l1 p)) c:=by
 obtain ⟨h1,h2,h3,h4,h5⟩:=h
 have hpl2 : p<l.length:=by rw [h1,List.length_set]; exact hpl
 refine ⟨by rw [List.length_set,h1,List.length_set],h2.set _ _ (ho.wd p),h3, ?_,fun t ht=>?_⟩
 ·have e1:=val_set (l:=l) hpl2 (wd l1 p)
  have e2:=val_set (l:=l1) hpl y
  have e3 : wd l p=y:=by rw [h5 p (.inr hp),wd_set hpl,if_pos rfl]
  rw [e3] at e1
  omega
 ·rw [wd_set hpl2]
  split
  ·rename_i e; rw [e]
  ·rename_i e
   rw [h5 t ht,wd_set hpl,if_neg e]
set_option maxRecDepth 100000 in
set_option maxHeartbeats 20000000 in
theorem reduce_walk (U V Lq j q g : Nat) (l vl qs : List Nat) (w0 w : World) (gu gv gq cu cv cq : Nat) (hs : Dst w0 w gu gv gq cu cv cq l vl qs) (hd : Dv U V l.length Lq (j+1) l qs)
  (hokv : Okw vl) (hvalv : val vl=V) (hLu : l.length=Lq+vl.length) (hj : j<Lq) (hb0 : l.length≤2000000000) (hq : q=val (l.drop j) / V) (hqB : q<wB) (hg : g=q∨g=q+1) (hgB : g<wB) :
  Calls Tryz.prog 188 #[.slice (some ⟨gu,0,none⟩) l.length cu,.slice (some ⟨gv,0,none⟩) vl.length cv,.int .i64 j,.int .u64 g] w
   (Ret fun v' w'=>v'=.int .u32 (q : Nat)∧∃ l2,Dv U V l.length Lq j l2 (qs.set j q)∧Dst w0 w' gu gv gq cu cv cq l2 vl qs):=by
 have hVk : V≤wB ^ vl.length:=by
  have:=val_lt hokv
  rw [hvalv] at this
  omega
 have bg : (g : Int)≤999999999:=by rw [wB_eq] at hgB; omega
 obtain ⟨p1,hp1⟩ : ∃ p1,p1=j+vl.length:=⟨_,rfl⟩
 obtain ⟨Lu,hLL⟩ : ∃ Lu,Lu=l.length:=⟨_,rfl⟩
 have hb0' : Lu≤2000000000:=by omega
 have lp1 : p1<Lu:=by omega
 have bj : (j : Int)≤2000000000:=by omega
 have bvl : (vl.length : Int)≤2000000000:=by omega
 have s1 : (j : Int) + (vl.length : Int)=(p1 : Int):=by omega
 have HLU:=Lib.hid hLu
 have HLL:=Lib.hid hLL
 have HVV:=Lib.hid hvalv
 have HQ:=Lib.hid hq
 have HQB:=Lib.hid hqB
 have HG:=Lib.hid hg
 have HP1:=Lib.hid hp1
 have HVK:=Lib.hid hVk
 have HJ:=Lib.hid hj
 have HD:=Lib.hid hd
 rw [← hLL]
 clear hLu hvalv hq hqB hg hp1 hVk hgB hb0 hj hLL hd
 go_enter Tryz.func188,Tryz.ntmps188
 go_wp2
 go_loopw [10,11,12] (fun bb cc ii wx=>∃ (i c bo : Nat) (l1 : List Nat),i≤vl.length∧cc=.int .u64 c∧bb=.int .i64 bo∧ii=.int .i64 i∧Msub l vl j g i l1 c bo∧Dst w0 wx gu gv gq cu cv cq l1 vl qs) (fun _ _ ii _=>vl.length - (intOf ii).toNat)
 case atStart=>exact ⟨0,0,0,l,Nat.zero_le _,rfl,rfl,rfl,msub_start vl j g HD.out.2.1,hs⟩
 case round =>
  clear hs
  obtain ⟨i,c,bo,l1,hi,rfl,rfl,rfl,hms,hs⟩:=hrel
  have hl1 : l1.length=Lu:=by rw [hms.1]; exact HLL.out.symm
  have bc : (c : Int)≤999999999:=by have:=hms.2.2.1; rw [wB_eq] at this; omega
  have bb : (bo : Int)≤1:=by have:=hms.2.2.2.1; omega
  have HL1:=Lib.hid hl1
  by_cases hik : i<vl.length
  ·obtain ⟨p,hp⟩ : ∃ p,p=i+j:=⟨_,rfl⟩
   have lp : p<Lu:=by have:=HLU.out; have:=HJ.out; have:=HLL.out; omega
   have cu4:=hs.u.cell p (by omega)
   have fu4:=hs.u.free p
   have cv4:=hs.v.cell i hik
   have sp : (j : Int) + (i : Int)=(p : Int):=by omega
   have bw : (wd vl i : Int)≤999999999:=word_lt hokv i
   have bl : (wd l1 p : Int)≤999999999:=word_lt hms.2.1 p
   obtain ⟨gw,hgw⟩ : ∃ gw,gw=g * wd vl i:=⟨_,rfl⟩
   have sgw : (g : Int) * (wd vl i : Int)=(gw : Int):=by rw [hgw,Int.natCast_mul]
   have bgw : (gw : Int)≤999999998000000001:=by
    have : g * wd vl i≤999999999 * 999999999:=Nat.mul_le_mul (by omega) (by omega)
    omega
   obtain ⟨pp,hpp⟩ : ∃ pp,pp=gw+c:=⟨_,rfl⟩
   have spp : (gw : Int) + (c : Int)=(pp : Int):=by omega
   have bpp : (pp : Int)≤999999999999999999:=by omega
   obtain ⟨c',hc'⟩ : ∃ c',c'=pp / 1000000000:=⟨_,rfl⟩
   have sc' : (pp : Int) / 1000000000=(c' : Int):=by omega
   obtain ⟨pm,hpm⟩ : ∃ pm,pm=pp % 1000000000:=⟨_,rfl⟩
   have spm : (pp : Int) % 1000000000=(pm : Int):=by omega
   have bpm : (pm : Int)≤999999999:=by omega
   have hpp' : pp=g * wd vl i+c:=by rw [hpp,hgw]
   by_cases hdn : (wd l1 p : Int) - (pm : Int) - (bo : Int)<0
   ·obtain ⟨d,hde⟩ : ∃ d : Int,d=(wd l1 p : Int) - (pm : Int) - (bo : Int):=⟨_,rfl⟩
    obtain ⟨d',hd'⟩ : ∃ d' : Nat,(d' : Int)=d+1000000000:=⟨(d+1000000000).toNat,by omega⟩
    have hnx:=msub_nat hms hokv (by omega) hik (by have:=HLU.out; have:=HJ.out; omega) hpp' hc' hpm (d':=d') (b':=1) (by rw [← hp]; omega) (by omega) (by omega)
    rw [← hp] at hnx
    have hd0 : d<0:=by omega
    have bd1 : -1000000000≤d:=by omega
    have sd : (wd l1 p : Int) - (pm : Int) - (bo : Int)=d:=hde.symm
    have sd' : d+1000000000=(d' : Int):=hd'.symm
    have bd' : (d' : Int)≤999999999:=by omega
    have HN:=Lib.hid hnx
    clear hnx hde hd' hdn hpp' hpp hc' hpm hgw hp hl1 hms
    go_wp2
    go_roundw
    case rel=>exact ⟨i+1,c',1,_,by omega,rfl,rfl,by go_num,HN.out,hs.set_u p d'⟩
    case measure=>simp [intOf]; omega
   ·obtain ⟨d',hd'⟩ : ∃ d' : Nat,(d' : Int)=(wd l1 p : Int) - (pm : Int) - (bo : Int):=⟨((wd l1 p : Int) - (pm : Int) - (bo : Int)).toNat,by omega⟩
    have hnx:=msub_nat hms hokv (by omega) hik (by have:=HLU.out; have:=HJ.out; omega) hpp' hc' hpm (d':=d') (b':=0) (by rw [← hp]; omega) (by omega) (by omega)
    rw [← hp] at hnx
    have sd : (wd l1 p : Int) - (pm : Int) - (bo : Int)=(d' : Int):=hd'.symm
    have bd' : (d' : Int)≤999999999:=by omega
    have HN:=Lib.hid hnx
    clear hnx hd' hdn hpp' hpp hc' hpm hgw hp hl1 hms
    go_wp2
    go_roundw
    case rel=>exact ⟨i+1,c',0,_,by omega,rfl,rfl,by go_num,HN.out,hs.set_u p d'⟩
    case measure=>simp [intOf]; omega
  ·obtain rfl : i=vl.length:=by omega
   have lp1' : p1<l1.length:=by omega
   have cu5:=hs.u.cell p1 lp1'
   have fu5:=hs.u.free p1
   have bl1 : (wd l1 p1 : Int)≤999999999:=word_lt hms.2.1 p1
   have HMS:=Lib.hid hms
   clear hms hi
   rcases HG.out with hgq | hgq
   ·have hex:=sub_exact HD.out HVV.out rfl HVK.out HLU.out HJ.out HMS.out (by rw [hgq]; exact HQ.out)
    rw [← HP1.out] at hex
    have sl : (wd l1 p1 : Int) - (c : Int) - (bo : Int)=0:=hex.1
    have hnx:=dv_next HD.out HLU.out HJ.out HVK.out HQ.out HQB.out (l2:=l1) HMS.out.1 HMS.out.2.1 (fun t ht=>HMS.out.2.2.2.2.2 t (by omega)) (by rw [← hgq]; exact hex.2)
    rw [← HP1.out] at hnx
    have HN:=Lib.hid hnx
    have HGQ:=Lib.hid hgq
    clear hnx hex hgq
    go_wp2
    go_ret
    exact ⟨_,rfl,by rw [← HGQ.out]; rfl,_,by rw [HLL.out]; exact HN.out,hs.set_u p1 0⟩
   ·have hov:=sub_over HD.out HVV.out rfl HVK.out HLU.out HJ.out HMS.out (by rw [hgq,HQ.out])
    rw [← HP1.out] at hov
    have sl : (wd l1 p1 : Int) - (c : Int) - (bo : Int) = -1:=hov.1
    have HOV:=Lib.hid hov.2
    have sg : (g : Int) - 1=(q : Int):=by omega
    have bq : (q : Int)≤999999999:=by omega
    have HGQ:=Lib.hid hgq
    clear hov hgq
    have hs9:=hs.set_u p1 999999999
    have ho9:=HMS.out.2.1.set p1 999999999 (by rw [wB_eq]; omega)
    have hl9 : (l1.set p1 999999999).length=Lu:=by rw [List.length_set]; exact hl1
    go_wp2
    go_loopw [16,17] (fun cc ii wx=>∃ (i c2 : Nat) (l2 : List Nat),i≤vl.length∧cc=.int .u32 c2∧ii=.int .i64 i∧Madd (l1.set p1 999999999) vl j i l2 c2∧Dst w0 wx gu gv gq cu cv cq l2 vl qs) (fun _ ii _=>vl.length - (intOf ii).toNat)
    case atStart=>exact ⟨0,0,_,Nat.zero_le _,rfl,rfl,madd_start vl j ho9,hs9⟩
    case round =>
     clear hs cu5 fu5 hs9
     obtain ⟨i,c2,l2,hi,rfl,rfl,hma,hs⟩:=hrel
     have hl2 : l2.length=Lu:=by rw [hma.1]; exact hl9
     have bc2 : (c2 : Int)≤1:=by have:=hma.2.2.1; omega
     by_cases hik2 : i<vl.length
     ·obtain ⟨p,hp⟩ : ∃ p,p=i+j:=⟨_,rfl⟩
      have lp : p<Lu:=by have:=HLU.out; have:=HJ.out; have:=HLL.out; omega
      have cu4:=hs.u.cell p (by omega)
      have fu4:=hs.u.free p
      have cv4:=hs.v.cell i hik2
      have sp : (j : Int) + (i : Int)=(p : Int):=by omega
      have wp : IntKind.i64.wrap (p : Int)=(p : Int):=IntWalk.i64_in _ (by omega)
      have bw : (wd vl i : Int)≤999999999:=word_lt hokv i
      have bl : (wd l2 p : Int)≤999999999:=word_lt hma.2.1 p
      obtain ⟨sa,hsa⟩ : ∃ sa,sa=wd l2 p+wd vl i:=⟨_,rfl⟩
      have ssa : (wd l2 p : Int) + (wd vl i : Int)=(sa : Int):=by omega
      have bsa : (sa : Int)≤1999999998:=by omega
      have wsa : IntKind.u32.wrap (sa : Int)=(sa : Int):=by rw [IntKind.wrap_u32]; omega
      obtain ⟨sb,hsb⟩ : ∃ sb,sb=c2+sa:=⟨_,rfl⟩
      have ssb : (sa : Int) + (c2 : Int)=(sb : Int):=by omega
      have bsb : (sb : Int)≤1999999999:=by omega
      have wsb : IntKind.u32.wrap (sb : Int)=(sb : Int):=by rw [IntKind.wrap_u32]; omega
      obtain ⟨sc,hsc⟩ : ∃ sc,sc=sb / wB:=⟨_,rfl⟩
      have ssc : (sb : Int) / 1000000000=(sc : Int):=by rw [wB_eq] at hsc; omega
      obtain ⟨sm',hsm⟩ : ∃ sm',sm'=sb % wB:=⟨_,rfl⟩
      have ssm : (sb : Int) % 1000000000=(sm' : Int):=by rw [wB_eq] at hsm; omega
      have bsm : (sm' : Int)≤999999999:=by omega
      have bsc : (sc : Int)≤1:=by omega
      have hnx:=(madd_next hma hokv hik2 (by rw [hl9]; have:=HLU.out; have:=HJ.out; have:=HLL.out; omega) (s:=sb) (by rw [hsb,hsa,hp])).1
      rw [← hp,← hsc,← hsm] at hnx
      have HN:=Lib.hid hnx
      have HL9:=Lib.hid hl9
      clear hnx hsa hsb hsc hsm hp hl2 hma hl9
      go_wp2
      go_quiet (fail)
      go_wp2
      go_roundw
      case rel=>exact ⟨i+1,sc,_,by omega,rfl,by go_num,HN.out,(hs.drewN _).set_u p sm'⟩
      case measure=>simp [intOf]; omega
     ·obtain rfl : i=vl.length:=by omega
      have lpl1 : p1<l1.length:=by omega
      have hma2:=madd_shift hma (by have:=HP1.out; omega) lpl1 HMS.out.2.1
      obtain ⟨rfl,o2,o3,o4⟩:=HOV.out _ _ hma2
      have cu6:=hs.u.cell p1 (by omega)
      have fu6:=hs.u.free p1
      have e9 : wd l2 p1=999999999:=by
       rw [hma.2.2.2.2 p1 (.inr (by have:=HP1.out; omega)),wd_set lpl1,if_pos rfl]
      rw [e9] at cu6
      have hnx:=dv_next HD.out HLU.out HJ.out HVK.out HQ.out HQB.out (l2:=l2.set p1 (wd l1 p1)) (by rw [List.length_set,hl2]; exact HLL.out) hma2.2.1 (fun t ht=>o4 t (by have:=HP1.out; omega)) (by have:=o2; rw [HGQ.out,Nat.add_sub_cancel] at this; exact this)
      rw [← HP1.out,List.set_set] at hnx
      have HN:=Lib.hid hnx
      have HL2:=Lib.hid hl2
      clear hnx o2 o3 o4 hma hma2 hl2 hi e9 hl9
      go_wp2
      go_ret
      exact ⟨_,rfl,rfl,_,by rw [HLL.out]; exact HN.out,hs.set_u p1 0⟩
end Go.Proofs.YtbnbaokamccmjaaGreatDoor

/- garboardref01: Over: the quotient and the remainder. -/
namespace Go.Proofs.YtbnbaokamccmjaaGreatDoor
open Go Go.RowKit
theorem dv_start2 {U V Lu k : Nat} {l : List Nat} (h : l.length=Lu) (ho : Okw l) (hv : val l=U) (hk : k≤Lu) (hlt : U<V * wB ^ (Lu - k)) : Dv U V Lu (Lu - k) (Lu - k) l (List.replicate (Lu - k) 0):=by
 refine ⟨h,ho,by simp,Okw.replicate _, ?_, ?_⟩
 ·have e:=val_low l (j:=Lu - k) (by omega)
  rcases Nat.lt_or_ge (val (l.drop (Lu - k))) V with h1 | h1
  ·exact h1
  ·have h2 : wB ^ (Lu - k) * V≤wB ^ (Lu - k) * val (l.drop (Lu - k)):=Nat.mul_le_mul_left _ h1
   rw [Nat.mul_comm] at h2
   omega
 ·rw [List.drop_of_length_le (by simp),val_nil,Nat.mul_zero,Nat.add_zero,hv]
section
variable {P : Program} {ops : Array Oper} {rest : List Oper} {o : Oper} {a : Act} {Q : Exit→Act→World→Prop}
theorem append_words {w0 W : World} (base : Nat) (hgd : o.guard=none) (s x : Operand) (t : TypeId)
  (ho : o.op=.call { callee:=.builtin .append,args:=#[s,x],argTypes:=#[t,t] })
  (ht : P.underlying t=some (.slice 184)) (hinfo : (P.info? 184).map (fun i=>(i.zero,i.size,i.bytes))=some (some (.int .u32 0),1,4))
  (v u : Value) (l ys : List Nat) (hs : a.eval s=v) (hx : a.eval x=u) (hu : U32 W u ys) (hy : 0<ys.length)
  (HO : Own W base v l) (HB : Below base w0 W) (hbase : base≤W.heap.size) (hbytes : l.length+ys.length<10000000000000)
  (h : ∀ v1 w1,Own w1 base v1 (l++ys)→Below base w0 w1→wpList P ops Q rest (a.put o.dst v1) w1) :
  wpList P ops Q (o :: rest) a W:=by
 obtain ⟨i0,hi,hzz⟩:=Option.map_eq_some_iff.1 hinfo
 simp only [Prod.mk.injEq] at hzz
 obtain ⟨hz0,hz1,hz2⟩:=hzz
 obtain ⟨A,cap,rfl,_,_,hcl0⟩:=hu.open
 obtain ⟨b,off,rfl,hcl⟩:=hcl0 hy
 refine wpList_append_own_at W hgd s x t ho base 184 i0 (.int .u32 0) 1 4 ht hi hz0 hz1 hz2 rfl (by omega) v l.length (u32s l) hs HO ⟨b,off,none⟩ ys.length cap (u32s ys) hx (by rw [u32s_length,Nat.mul_one]) (fun j u hj=>?_) (by simp [u32s,Value.oneCell']) (by unfold maxLen; omega) (by omega) hbase ?_
 ·have hjl : j<ys.length:=by
   have:=(List.getElem?_eq_some_iff.1 hj).1
   rwa [u32s_length] at this
  rw [u32s_get hjl] at hj
  cases hj
  rw [Lib.add_plain]
  exact hcl j hjl
 ·intro v1 w1 hown hg _ _
  refine h v1 w1 ?_ (HB.grown hg hbase (own_base_le HO))
  show w1.ownsRow _ _ _ _ (l++ys).length (u32s (l++ys))
  rw [List.length_append,u32s_append]
  exact hown
end
set_option maxRecDepth 100000 in
set_option maxHeartbeats 400000 in
theorem rOver_less (v u : Value) (n m : Nat) (hlt : n<m) (w : World) (h : Num w v n) (g : Num w u m) :
  Calls Tryz.prog 167 #[v,u] w (Ret2 fun v1 v2 w'=>Num w' v1 (n / m)∧Num w' v2 (n % m)∧Below w.heap.size w w'):=by
 rw [Nat.div_eq_of_lt hlt,Nat.mod_eq_of_lt hlt]
 go_enter Tryz.func167,Tryz.ntmps167
 go_wp2_with fail
 refine (rCmp_walk v u n m w h g).mono ?_
 rintro e w1 ⟨rfl,hb⟩
 rw [cmpN_lt (by omega)]
 go_wp2
 go_ret2
 exact ⟨_,_,rfl,num_zero _,h.below hb,hb⟩
set_option maxRecDepth 100000 in
set_option maxHeartbeats 1000000 in
theorem rOver_word (v u : Value) (n m : Nat) (hle : m≤n) (hm : 0<m) (hm1 : m<wB) (w : World) (h : Num w v n) (g : Num w u m) (hf : (wds n).length≤2000000000) :
  Calls Tryz.prog 167 #[v,u] w (Ret2 fun v1 v2 w'=>Num w' v1 (n / m)∧Num w' v2 (n % m)∧Below w.heap.size w w'):=by
 have hc : ¬ cmpN n m<0:=by unfold cmpN; split<;>(try split)<;>omega
 have hone:=wds_one_word (n:=m) (by omega) hm1
 have hlen : (wds m).length=1:=by rw [hone]; rfl
 have hm9 : m≤999999999:=by rw [wB_eq] at hm1; omega
 have k1 : (((wds m).length : Int) == 1)=true:=by rw [hlen]; rfl
 have hr9 : n % m≤4294967295:=by have:=Nat.mod_lt n hm; omega
 have H1:=Lib.hid hone
 have H9:=Lib.hid hm9
 have H0:=Lib.hid hm
 have HR:=Lib.hid hr9
 have HF:=Lib.hid hf
 clear hm hm1 hone hm9 hle hr9 hf
 go_enter Tryz.func167,Tryz.ntmps167
 go_wp2_with fail
 refine (rCmp_walk v u n m w h g).mono ?_
 rintro e w1 ⟨rfl,hb⟩
 have h1:=h.below hb
 have g1:=g.below hb
 obtain ⟨A,cap,rfl,gn,gc,gcell⟩:=g1.open
 obtain ⟨b,off,rfl,hcl⟩:=gcell (by omega)
 have hck:=hcl 0 (by omega)
 rw [show wd (wds m) 0=m by rw [H1.out]; rfl,Nat.add_zero] at hck
 clear gcell hcl h g
 have hl1 : 0<(wds m).length:=by omega
 clear hlen
 go_wp2_with fail
 refine (rsmall_walk v n m H0.out H9.out w1 h1 HF.out).mono ?_
 rintro e w2 ⟨v1,_,rfl,r1,rfl,r3⟩
 go_wp2_with fail
 refine (rSmall_walk (n % m) HR.out w2).mono ?_
 rintro e w3 ⟨v3,rfl,r4,r5⟩
 go_wp2
 go_ret2
 exact ⟨_,_,rfl,(r1.below r5).num,r4.num,bn (bn hb r3) r5⟩
set_option maxRecDepth 100000 in
set_option maxHeartbeats 20000000 in
theorem rOver_long (v u : Value) (n m : Nat) (hlt : m≤n) (hk : 2≤(wds m).length) (w : World) (h : Num w v n) (g : Num w u m) (hf : (wds n).length≤900000000) :
  Calls Tryz.prog 167 #[v,u] w (Ret2 fun v1 v2 w'=>Num w' v1 (n / m)∧Num w' v2 (n % m)∧Below w.heap.size w w'):=by
 obtain ⟨An,capn,rfl,_,_,_⟩:=h.open
 have hc : ¬ cmpN n m<0:=by unfold cmpN; split<;>(try split)<;>omega
 have hml : (wds m).length≤(wds n).length:=wds_mono_length hlt
 have k1 : (((wds m).length : Int) == 1)=false:=beq_eq_false_iff_ne.2 (by omega)
 obtain ⟨f,hfe⟩ : ∃ f,f=wB / (wd (wds m) ((wds m).length - 1)+1):=⟨_,rfl⟩
 obtain ⟨n1,n2,n3,n4⟩:=norm_div rfl (by omega) hfe
 obtain ⟨t1,t2,t3,t4⟩:=top_word (n:=m) rfl (by omega)
 obtain ⟨tp,htp⟩ : ∃ tp,tp=wd (wds m) ((wds m).length - 1):=⟨_,rfl⟩
 rw [← htp] at hfe t1 t2 t3 t4
 have tp1 : (1 : Int)≤tp:=by omega
 have tp2 : (tp : Int)≤999999999:=by rw [wB_eq] at t4; omega
 have hfI : (1000000000 : Int) / ((tp : Int)+1)=f:=by rw [hfe,wB_eq,Int.natCast_ediv]; rfl
 have hm0 : 0<m:=wds_length_pos.1 (by omega)
 have HM0:=Lib.hid hm0
 have HF:=Lib.hid hfI
 have Hfe:=Lib.hid hfe
 have Htp:=Lib.hid htp
 have Hlt:=Lib.hid hlt
 have hfb : (f : Int)≤500000000:=by omega
 clear hfe htp t1 t2 t3 t4 hlt hm0
 go_enter Tryz.func167,Tryz.ntmps167
 go_wp2_with fail
 refine (rCmp_walk _ u n m w h g).mono ?_
 rintro e w3 ⟨rfl,hb5⟩
 have h5:=h.below hb5
 have g5:=g.below hb5
 clear h g
 obtain ⟨A,cap,rfl,gn,gc,gcell⟩:=g5.open
 obtain ⟨b,off,rfl,hcl⟩:=gcell (by omega)
 have hck:=hcl ((wds m).length - 1) (by omega)
 rw [← Htp.out] at hck
 clear gcell hcl
 go_wp2_with fail
 rw [HF.out]
 refine (rSmall_walk f (by omega) _).mono ?_
 rintro e w4 ⟨vf,rfl,f1,f2⟩
 have hb6:=bn hb5 f2
 have h6:=h5.below f2
 have g6 : Num w4 (.slice (some ⟨b,off,none⟩) (wds m).length cap) m:=g5.below f2
 have ff : (wds f).length≤1:=wds_lt_pow (by rw [Nat.pow_one,wB_eq]; omega)
 clear hck hb5 h5 g5 f2 tp1 tp2 HF hfI hc k1
 go_wp2_with fail
 refine (rTimes_walk _ _ m f w4 g6 f1.num (by omega) (by omega)).mono ?_
 rintro e w5 ⟨v88,rfl,y1,y2⟩
 have lnf : (wds (n * f)).length≤(wds n).length+1:=by
  refine wds_lt_pow ?_
  have a1:=lt_wds_pow n
  have a2 : n * f<wB ^ (wds n).length * wB:=Nat.mul_lt_mul_of_lt_of_le a1 (by rw [wB_eq]; omega) wB_pos
  rw [Nat.pow_succ]; exact a2
 have lnn : (wds n).length≤(wds (n * f)).length:=wds_mono_length (Nat.le_mul_of_pos_right _ n3)
 go_wp2_with fail
 refine (rTimes_walk _ _ n f _ ((h6.below y2).below (ba (br _))) ((f1.num.below y2).below (ba (br _))) (by omega) (by omega)).mono ?_
 rintro e w6 ⟨v56,rfl,x1,x2⟩
 have HO1 : Own w6 w5.heap.size (.slice (some ⟨w5.heap.size,0,none⟩) 0 0) []:=by
  have h0 : Own (w5.alloc (.cells #[] 184)) w5.heap.size (.slice (some ⟨w5.heap.size,0,none⟩) 0 0) []:=World.ownsRow_lit (base:=w5.heap.size) (size:=1) w5 #[] 0 (Nat.le_refl _) (by decide) rfl
  exact h0.below x2
 have HB1 : Below w5.heap.size w5 w6:=bn (ba (br w5)) x2
 have hy1 : 0<(wds (n * f)).length:=by omega
 go_wp2_with (first
  | (at_builtin; refine append_words (w0:=w5) w5.heap.size rfl (.tmp 53) (.tmp 56) 80 rfl Tryz.underlying80 info_u32 _ _ [] (wds (n * f)) rfl rfl x1.num hy1 HO1 HB1 HB1.size (by simp; omega) ?_; intro v57 w8 hown7 hb7)
  | (at_builtin; refine append_box (w0:=w5) (W:=w8) w5.heap.size rfl (.tmp 57) (.tmp 58) 80 184 (.int .u32 0) 1 4 rfl Tryz.underlying80 info_u32 rfl (by omega) (by omega) v57 _ 2 _ [.int .u32 0,.int .u32 0] rfl rfl rfl (by simp [Value.oneCell']) hown7 hb7 hb7.size (by simp; omega) ?_; intro v59 w9 hown9 hb9 hg9))
 have hO9 : Own w9 w5.heap.size v59 (wds (n * f)++[0,0]):=by
  show w9.ownsRow _ _ _ _ (wds (n * f)++[0,0]).length (u32s (wds (n * f)++[0,0]))
  rw [List.length_append,u32s_append]
  exact hown9
 obtain ⟨lf,hlf⟩ : ∃ lf,lf=wds (n * f)++[0,0]:=⟨_,rfl⟩
 rw [← hlf] at hO9
 have hlfl : lf.length=(wds (n * f)).length+2:=by rw [hlf]; simp
 have hvf : val lf=n * f:=by rw [hlf,val_append,val_wds]; simp [val]
 have hof : Okw lf:=by rw [hlf]; exact (okw_wds _).append (Okw.cons wB_pos (Okw.cons wB_pos Okw.nil))
 obtain ⟨gu,cu,rfl,u1,u2⟩:=hO9.at (by omega)
 have hcuf : lf.length≤cu:=by
  obtain ⟨A',cap',hv',hn',_⟩:=hO9.form
  cases hv'
  exact hn'
 have HVF:=Lib.hid hvf
 have HLF:=Lib.hid hlf
 have HLFL:=Lib.hid hlfl
 clear hvf hlf hlfl hown9 hown7 HO1 HB1 hb7 hy1 x1 x2
 refine (rtrim_walk _ lf cu w9 hO9.u32 hof).mono ?_
 rintro e w10 ⟨rfl,rfl⟩
 rw [HVF.out]
 obtain ⟨Lu,hLu⟩ : ∃ Lu,Lu=(wds n).length+1:=⟨_,rfl⟩
 obtain ⟨l0,hl0⟩ : ∃ l0,l0=lf.take Lu:=⟨_,rfl⟩
 have hl0l : l0.length=Lu:=by rw [hl0,List.length_take,Nat.min_eq_left (by have:=HLFL.out; omega)]
 obtain ⟨vl,hvl⟩ : ∃ vl,vl=wds (m * f):=⟨_,rfl⟩
 have hvll : vl.length=(wds m).length:=by rw [hvl,n1]
 have Y1 : Own w10 w4.heap.size v88 vl:=by rw [hvl]; exact y1.below hb9
 obtain ⟨gv,cv,rfl,u3,u4⟩:=Y1.at (by omega)
 obtain ⟨kk,hkk⟩ : ∃ kk,kk=(wds m).length:=⟨_,rfl⟩
 have s0 : ((wds n).length : Int)+1=(Lu : Int):=by omega
 have hmx : max ((Lu : Int)) ((wds (n * f)).length : Int)=(Lu : Int):=by omega
 have hLcu : Lu≤cu:=by have:=HLFL.out; omega
 have hLkk : kk+1≤Lu:=by omega
 have hb0 : Lu≤1000000000:=by omega
 have hk2 : 2≤kk:=by omega
 have hmk:=fun W=>make_full 80 Tryz.underlying80 ((Lu : Int) - (kk : Int)) (Lu - kk) (by omega) (by omega) W
 have hst : Dst w4 (w10.alloc (.cells (madeCells #[.int .u32 0] (Lu - kk)) 184)) gu gv w10.heap.size cu cv (Lu - kk) l0 vl (List.replicate (Lu - kk) 0):=by
  have e2:=y2.size
  have e3:=hb9.size
  have hguv : gu≠gv:=by
   have:=Y1
   have h9 : gv<w5.heap.size:=by
    obtain ⟨g',c',he,_,h9⟩:=y1.at (by rw [← hvl,hvll]; omega)
    simp only [Value.slice.injEq,Option.some.injEq,Addr.mk.injEq] at he
    rw [he.1.1]
    exact h9
   omega
  refine ⟨?_, ?_, ?_,hguv,by omega,by omega,by omega,by omega, ?_⟩
  ·have h1:=hO9.take Lu (by have:=HLFL.out; omega)
   rw [← hl0] at h1
   rw [hl0l]
   exact (h1.base e2).below (ba (br w10))
  ·exact Y1.below (ba (br w10))
  ·have:=own_made w10 (Lu - kk) (by omega)
   rw [List.length_replicate]
   exact this.base (by omega)
  ·exact ba (bn y2 hb9)
 have HL0:=Lib.hid hl0
 have HVL:=Lib.hid hvl
 have HL0L:=Lib.hid hl0l
 have HVLL:=Lib.hid (hvll.trans hkk.symm)
 have F1:=Lib.hid f1
 have HB6:=Lib.hid hb6
 have HLU:=Lib.hid hLu
 have HKK:=Lib.hid hkk
 have HOF:=Lib.hid hof
 clear hO9 Y1 y1 hl0 hvl hl0l hvll f1 h6 g6 hb6 hb9 y2 hg9 hLu hof hcuf lnf u1 u2 u3 u4
 rw [← hkk] at n1 hml hk gn
 rw [← hkk]
 clear hkk
 go_wp2_with fail
 clear hmk
 obtain ⟨Lq,hLq⟩ : ∃ Lq,Lq=Lu - kk:=⟨_,rfl⟩
 obtain ⟨gq,hgq⟩ : ∃ gq,gq=w10.heap.size:=⟨_,rfl⟩
 rw [← hLq,← hgq] at hst ⊢
 have hLuq : Lu=Lq+kk:=by omega
 have hstart : ((Lu : Int) - (kk : Int) - 1)=(Lq : Int) - 1:=by omega
 have HLUQ:=Lib.hid hLuq
 have HST:=Lib.hid hstart
 have hdv : Dv (n * f) (m * f) Lu Lq Lq l0 (List.replicate Lq 0):=by
  have hlt : n * f<m * f * wB ^ (Lu - kk):=by
   have h1:=lt_wds_pow n
   have h2:=le_of_wds_length (n:=m) (k:=kk - 1) (by rw [← HKK.out]; omega)
   have h3 : n<m * wB ^ (Lu - kk):=by
    have e : wB ^ (wds n).length=wB ^ (kk - 1) * wB ^ (Lu - kk):=by rw [← Nat.pow_add]; congr 1; have:=HLU.out; omega
    rw [e] at h1
    exact Nat.lt_of_lt_of_le h1 (Nat.mul_le_mul_right _ h2)
   have h4 : n * f<m * wB ^ (Lu - kk) * f:=Nat.mul_lt_mul_of_pos_right h3 n3
   have e2 : m * wB ^ (Lu - kk) * f=m * f * wB ^ (Lu - kk):=by ac_rfl
   rw [← e2]
   exact h4
  have hvl0 : val l0=n * f:=by
   rw [HL0.out,val_take_zero (by have:=HLFL.out; have:=HLU.out; omega) (fun jj h1 _=>?_),HVF.out]
   have h5 : val lf<wB ^ Lu:=by
    rw [HVF.out,HLU.out]
    have a1:=lt_wds_pow n
    have a2 : n * f<wB ^ (wds n).length * wB:=Nat.mul_lt_mul_of_lt_of_le a1 (by rw [wB_eq]; omega) wB_pos
    rw [Nat.pow_succ]; exact a2
   exact wd_zero_of_lt h5 h1
  have:=dv_start2 (U:=n * f) (V:=m * f) (Lu:=Lu) (k:=kk) (l:=l0) HL0L.out (by rw [HL0.out]; exact HOF.out.take _) hvl0 (by omega) hlt
  rw [← hLq] at this
  exact this
 clear hLq hgq hLuq hstart hmx s0 hLcu lnn
 obtain ⟨k1,hk1⟩ : ∃ k1,k1+1=kk:=⟨kk - 1,by omega⟩
 have s4 : (kk : Int) - 1=(k1 : Int):=by omega
 have HK1:=Lib.hid hk1
 clear hk1
 rw [s4]
 go_loopw [13] (fun jj wr=>∃ (t : Nat) (l qs : List Nat),t≤Lq∧jj=.int .i64 ((t : Int) - 1)∧Dv (n * f) (m * f) Lu Lq t l qs∧Dst w4 wr gu gv gq cu cv Lq l vl qs) (fun jj _=>(intOf jj+1).toNat)
 case atStart=>exact ⟨Lq,_,_,Nat.le_refl _,by rw [HST.out],hdv,hst⟩
 case round =>
  obtain ⟨t,l,qs,ht,rfl,hd,hs⟩:=hrel
  clear hdv hst
  have hokv : Okw vl:=by rw [HVL.out]; exact okw_wds _
  have hvalv : val vl=m * f:=by rw [HVL.out,val_wds]
  have HVV2:=Lib.hid hvalv
  have HVLL2:=HVLL
  by_cases h0 : t=0
  ·subst h0
   obtain ⟨d1,d2⟩:=dv_end hd
   have hokl:=hd.2.1
   have hokq:=hd.2.2.2.1
   have hql:=hd.2.2.1
   have hll:=hd.1
   have hVk : m * f<wB ^ kk:=by
    have:=val_lt hokv
    rwa [hvalv,HVLL.out] at this
   have hV0 : 0<m * f:=Nat.mul_pos HM0.out n3
   have hlt2 : val l<wB ^ kk:=by rw [d2]; exact Nat.lt_trans (Nat.mod_lt _ hV0) hVk
   have hvt : val (l.take kk)=val l:=val_take_zero (by omega) (fun jj h1 _=>wd_zero_of_lt hlt2 h1)
   have e1 : n * f / (m * f)=n / m:=Nat.mul_div_mul_right n m n3
   have e2 : n * f % (m * f)=n % m * f:=Nat.mul_mod_mul_right f n m
   have hcu : kk≤cu:=by
    obtain ⟨A',cap',hv',hn',_⟩:=hs.u.form
    cases hv'
    omega
   have hFf : wds f=[f]:=wds_one_word (by omega) (by rw [wB_eq]; omega)
   have hfn:=(F1.out.below hs.b).num
   obtain ⟨Af,capf,rfl,_,_,hcf⟩:=hfn.open
   obtain ⟨bf,off0,rfl,hcf1⟩:=hcf (by rw [hFf]; exact Nat.one_pos)
   have c0:=hcf1 0 (by rw [hFf]; exact Nat.one_pos)
   rw [hFf,Nat.add_zero] at c0
   have c0' : wr.cell? ⟨bf,off0,none⟩=some (.int .u32 (f : Int)):=c0
   have hlt3 : (l.take kk).length=kk:=by rw [List.length_take]; omega
   have htk2 : U32 wr (.slice (some ⟨gu,0,none⟩) (l.take kk).length cu) (l.take kk):=by rw [hlt3]; exact (hs.u.take kk (by omega)).u32
   have hTW : ∀ W,Below wr.heap.size wr W→Calls Tryz.prog 164 #[.slice (some ⟨gu,0,none⟩) kk cu] W fun e w'=>e=.returned (.slice (some ⟨gu,0,none⟩) (wds (val l)).length cu)∧w'=W:=fun W hb=>by
    have:=rtrim_walk (some ⟨gu,0,none⟩) (l.take kk) cu W (htk2.below hb) (hokl.take _)
    rwa [hlt3,hvt] at this
   have hnum : Num wr (.slice (some ⟨gu,0,none⟩) (wds (val l)).length cu) (val l):=by
    have:=U32.take htk2 (wds (val (l.take kk))).length (take_wds (hokl.take _)).2
    rw [(take_wds (hokl.take _)).1,hvt] at this
    exact this
   have hSM : ∀ W,Below wr.heap.size wr W→Calls Tryz.prog 187 #[.slice (some ⟨gu,0,none⟩) (wds (val l)).length cu,.int .u32 f] W (Ret2 fun v1 v2 w'=>NumO w' W.heap.size v1 (n % m)∧Below W.heap.size W w'):=fun W hb=>by
    refine (rsmall_walk _ (val l) f n3 (by omega) W (hnum.below hb) (Nat.le_trans (wds_lt_pow hlt2) (by omega))).mono ?_
    rintro e w' ⟨v1,v2,rfl,r1,_,r3⟩
    rw [d2,e2,Nat.mul_div_cancel _ n3] at r1
    exact ⟨v1,v2,rfl,r1,r3⟩
   have hTQ : ∀ W,Below wr.heap.size wr W→Calls Tryz.prog 164 #[.slice (some ⟨gq,0,none⟩) Lq Lq] W fun e w'=>e=.returned (.slice (some ⟨gq,0,none⟩) (wds (n / m)).length Lq)∧w'=W:=fun W hb=>by
    have:=rtrim_walk (some ⟨gq,0,none⟩) qs Lq W (hs.q.below hb).u32 hokq
    rwa [hql,d1,e1] at this
   have hqn : Num wr (.slice (some ⟨gq,0,none⟩) (wds (n / m)).length Lq) (n / m):=by
    have:=(hs.q.trim hokq).num
    rwa [d1,e1] at this
   have HTW:=Lib.hid hTW
   have HSM:=Lib.hid hSM
   have HTQ:=Lib.hid hTQ
   have HQN:=Lib.hid hqn
   have HSB:=Lib.hid hs.b
   have hl1f : 0<(wds f).length:=by rw [hFf]; exact Nat.one_pos
   clear hTW hSM hTQ hqn d1 d2 hokl hokq hql hll hVk hV0 hlt2 hvt e1 e2 hFf hfn hcf hcf1 c0 hlt3 htk2 hnum hvalv hs hd
   go_wp2
   go_region_held3 (fun w'=>w'.cell? ⟨bf,off0,none⟩=some (.int .u32 (f : Int))∧Below wr.heap.size wr w')
    ((refine (fun hb=>⟨bc hb c0',hb⟩) ?_; go_split_ands; repeat (first | with_reducible assumption | (with_reducible exact bd (br _)) | (with_reducible exact br _) | (with_reducible refine bn ?_ g))))
    (first | (go_at_call 164; refine (HTW.out _ (by go_split_ands; assumption)).mono ?_; rintro e wz ⟨rfl,rfl⟩) | (go_at_call 187; refine (HSM.out _ (by go_split_ands; assumption)).mono ?_; rintro e wz ⟨v1,v2,rfl,r1,g⟩))
   go_split_ands
   go_wp2_with fail
   refine (HTQ.out _ (by with_reducible assumption)).mono ?_
   rintro e w12 ⟨rfl,rfl⟩
   go_wp2
   go_ret2
   exact ⟨_,_,rfl,HQN.out.below (by with_reducible assumption),r1.num,bn (bn HB6.out HSB.out) (by with_reducible assumption)⟩
  ·obtain ⟨j,rfl⟩ : ∃ j,t=j+1:=⟨t - 1,by omega⟩
   rw [show ((j+1 : Nat) : Int) - 1=(j : Int) by omega]
   have hll:=hd.1
   have hql:=hd.2.2.1
   have hLu:=HLUQ.out
   have hvk:=HVLL.out
   obtain ⟨p1,hp1⟩ : ∃ p1,p1=j+kk:=⟨_,rfl⟩
   have hk1:=HK1.out
   obtain ⟨p2,hp2⟩ : ∃ p2,p2+1=p1:=⟨p1 - 1,by omega⟩
   obtain ⟨p3,hp3⟩ : ∃ p3,p3+1=p2:=⟨p2 - 1,by omega⟩
   obtain ⟨k2,hk2'⟩ : ∃ k2,k2+1=k1:=⟨k1 - 1,by omega⟩
   have cu1:=hs.u.cell p1 (by omega)
   have cu2:=hs.u.cell p2 (by omega)
   have cv1:=hs.v.cell k1 (by omega)
   have lp1 : p1<Lu:=by omega
   have lp2 : p2<Lu:=by omega
   have lk1 : k1<vl.length:=by omega
   have s1 : (j : Int) + (kk : Int)=(p1 : Int):=by omega
   have w1' : IntKind.i64.wrap (p1 : Int)=(p1 : Int):=IntWalk.i64_in _ (by omega)
   have s2 : (p1 : Int) - 1=(p2 : Int):=by omega
   have w2' : IntKind.i64.wrap (p2 : Int)=(p2 : Int):=IntWalk.i64_in _ (by omega)
   have w4' : IntKind.i64.wrap (k1 : Int)=(k1 : Int):=IntWalk.i64_in _ (by omega)
   have bu1:=word_lt hd.2.1 p1
   have bu2:=word_lt hd.2.1 p2
   have bv1:=word_lt hokv k1
   obtain ⟨x1,hx1⟩ : ∃ x1,x1=wd l p1 * wB:=⟨_,rfl⟩
   have s6 : (wd l p1 : Int) * 1000000000=(x1 : Int):=by rw [hx1,wB_eq]; omega
   have bx1 : (x1 : Int)≤999999999000000000:=by omega
   have w6' : IntKind.u64.wrap (x1 : Int)=(x1 : Int):=IntWalk.u64_in _ (by omega)
   obtain ⟨T,hT⟩ : ∃ T,T=x1+wd l p2:=⟨_,rfl⟩
   have s7 : (x1 : Int) + (wd l p2 : Int)=(T : Int):=by omega
   have bT : (T : Int)≤999999999999999999:=by omega
   have w7' : IntKind.u64.wrap (T : Int)=(T : Int):=IntWalk.u64_in _ (by omega)
   have lp3 : p3<Lu:=by omega
   have lk2 : k2<vl.length:=by omega
   have s3 : (p1 : Int) - 2=(p3 : Int):=by omega
   have w3' : IntKind.i64.wrap (p3 : Int)=(p3 : Int):=IntWalk.i64_in _ (by omega)
   have s5 : (kk : Int) - 2=(k2 : Int):=by omega
   have w5' : IntKind.i64.wrap (k2 : Int)=(k2 : Int):=IntWalk.i64_in _ (by omega)
   have hkn:=kn_of hd hokv hvalv hvk (by omega) (by rw [HVL.out,HKK.out]; exact n2) (by omega) (by omega)
   rw [show j+kk - 1=p2 by omega,show j+kk - 2=p3 by omega,← hp1,show kk - 1=k1 by omega,show kk - 2=k2 by omega,← hx1,← hT] at hkn
   obtain ⟨q,hq⟩ : ∃ q,q=val (l.drop j) / (m * f):=⟨_,rfl⟩
   rw [← hq] at hkn
   obtain ⟨st1,st2,st3,st4⟩:=hkn.start
   have hv0 : ¬ wd vl k1=0:=by have:=hkn.half; have:=wB_eq; omega
   have hv1 : (1 : Int)≤wd vl k1:=by omega
   have bu3:=word_lt hd.2.1 p3
   have bv2:=word_lt hokv k2
   obtain ⟨g0,hg0⟩ : ∃ g0,g0=T / wd vl k1:=⟨_,rfl⟩
   obtain ⟨r0,hr0⟩ : ∃ r0,r0=T % wd vl k1:=⟨_,rfl⟩
   rw [← hg0] at st1 st2 st3
   rw [← hr0] at st3 st4
   have bg0 : (g0 : Int)≤1000000001:=by rw [wB_eq] at st2; omega
   have s8 : (T : Int) / (wd vl k1 : Int)=(g0 : Int):=by rw [hg0,Int.natCast_ediv]
   have s8' : (T : Int).tdiv (wd vl k1 : Int)=(g0 : Int):=by rw [Int.tdiv_eq_ediv_of_nonneg (Int.natCast_nonneg _)]; exact s8
   have w8' : IntKind.u64.wrap (g0 : Int)=(g0 : Int):=IntWalk.u64_in _ (by omega)
   have s9 : (T : Int) % (wd vl k1 : Int)=(r0 : Int):=by rw [hr0,Int.natCast_emod]
   have s9' : (T : Int).tmod (wd vl k1 : Int)=(r0 : Int):=by rw [Int.tmod_eq_emod_of_nonneg (Int.natCast_nonneg _)]; exact s9
   have HQ:=Lib.hid hq
   have HKN:=Lib.hid hkn
   have S1:=Lib.hid st1
   have S3:=Lib.hid st3
   have S2:=Lib.hid st2
   have S4:=Lib.hid st4
   have HD:=Lib.hid hd
   clear hq hkn st1 st2 st3 st4 hvalv hg0 hr0 hd
   have HX:=Lib.hid hx1
   have HT:=Lib.hid hT
   have HP1:=Lib.hid hp1
   have HP2:=Lib.hid hp2
   have HP3:=Lib.hid hp3
   have HK2:=Lib.hid hk2'
   have HLL2:=Lib.hid hll
   have HQL:=Lib.hid hql
   clear hLu hx1 hT hp1 hp2 hp3 hk1 hk2' hll hql hvk
   go_wp2
   go_quiet (fail)
   go_wp2
   go_quiet (fail)
   go_wp2
   go_loopw [15,16] (fun gg rr wx=>∃ g r : Nat,gg=.int .u64 g∧rr=.int .u64 r∧g * wd vl k1+r=T∧q≤g∧g≤wB+1∧r≤1999999998∧(wB≤r→g≤q+1∧g<wB)∧Dst w4 wx gu gv gq cu cv Lq l vl qs) (fun gg _ _=>(intOf gg).toNat)
   case atStart=>exact ⟨g0,r0,rfl,rfl,S3.out,S1.out,S2.out,by have:=S4.out; rw [wB_eq] at this; omega,fun h=>by have:=S4.out; omega,by first | exact (hs.drewN _).drewN _ | exact hs.drewN _⟩
   case round =>
    clear cu1 cu2 cv1 s8 s8' s9 s9' w8' bg0 hs s6 bx1 w6' s7 bT w7' bu1 bu2
    obtain ⟨g,r,rfl,rfl,he,hqg,hgB,hrB,hfin0,hs⟩:=hrel
    have cu3:=hs.u.cell p3 (by have:=HLL2.out; omega)
    have cv1:=hs.v.cell k1 lk1
    have cv2:=hs.v.cell k2 lk2
    have br : (r : Int)≤1999999998:=by omega
    have bgg : (g : Int)≤1000000001:=by rw [wB_eq] at hgB; omega
    obtain ⟨r2,hr2⟩ : ∃ r2,r2=r+wd vl k1:=⟨_,rfl⟩
    have s14 : (r : Int) + (wd vl k1 : Int)=(r2 : Int):=by omega
    have HE:=Lib.hid he
    have HQG:=Lib.hid hqg
    have HGB:=Lib.hid hgB
    have HF0:=Lib.hid hfin0
    have HR2:=Lib.hid hr2
    clear he hqg hgB hrB hr2 hfin0
    by_cases hR : (r : Int)<1000000000
    ·have hsR : decide ((r : Int)<1000000000)=true:=decide_eq_true hR
     have bR : (r : Int)≤999999999:=by omega
     have br2 : (r2 : Int)≤1999999998:=by omega
     clear hR
     by_cases hA : (1000000000 : Int)≤(g : Int)
     ·have hA' : decide ((1000000000 : Int)≤(g : Int))=true:=decide_eq_true hA
      have hov:=HKN.out.over HE.out (.inl (by rw [wB_eq]; omega))
      obtain ⟨g1,hg1⟩ : ∃ g1,g=g1+1:=⟨g - 1,by omega⟩
      have he1 : g1 * wd vl k1+r2=T:=by have:=HE.out; rw [HR2.out]; rw [hg1,Nat.add_mul,Nat.one_mul] at this; omega
      have HOV:=Lib.hid hov
      have HE1:=Lib.hid he1
      have HG1:=Lib.hid hg1
      have sG : (g : Int) - 1=(g1 : Int):=by omega
      have bG : (g1 : Int)≤1000000000:=by have:=HGB.out; rw [wB_eq] at this; omega
      have HFO : Hid (wB≤r2→g1≤q+1∧g1<wB):=Lib.hid fun h=>HKN.out.out HE1.out (by have:=HGB.out; have:=HG1.out; omega) h
      clear hov he1 hg1 hA
      go_wp2
      go_quiet (fail)
      clear hsR hA'
      go_wp2
      go_roundw
      case rel=>exact ⟨g1,r2,rfl,rfl,HE1.out,by have:=HOV.out; have:=HG1.out; omega,by have:=HGB.out; have:=HG1.out; omega,by omega,HFO.out,hs.drewN _⟩
      case measure=>have:=HG1.out; simp [intOf]; omega
     ·have hA' : decide ((1000000000 : Int)≤(g : Int))=false:=decide_eq_false hA
      have hg9 : (g : Int)≤999999999:=by omega
      clear hA
      obtain ⟨gp,hgp⟩ : ∃ gp,gp=g * wd vl k2:=⟨_,rfl⟩
      have s10 : (g : Int) * (wd vl k2 : Int)=(gp : Int):=by rw [hgp,Int.natCast_mul]
      have b10 : (gp : Int)≤999999998000000001:=by
       have : g * wd vl k2≤999999999 * 999999999:=Nat.mul_le_mul (by omega) (by omega)
       omega
      have w10 : IntKind.u64.wrap (gp : Int)=(gp : Int):=IntWalk.u64_in _ (by omega)
      obtain ⟨ra,hra⟩ : ∃ ra,ra=r * wB:=⟨_,rfl⟩
      have s11 : (r : Int) * 1000000000=(ra : Int):=by rw [hra,wB_eq]; omega
      have b11 : (ra : Int)≤999999999000000000:=by omega
      have w11 : IntKind.u64.wrap (ra : Int)=(ra : Int):=IntWalk.u64_in _ (by omega)
      obtain ⟨rb,hrb⟩ : ∃ rb,rb=ra+wd l p3:=⟨_,rfl⟩
      have s12 : (ra : Int) + (wd l p3 : Int)=(rb : Int):=by omega
      have b12 : (rb : Int)≤999999999999999999:=by omega
      have w12 : IntKind.u64.wrap (rb : Int)=(rb : Int):=IntWalk.u64_in _ (by omega)
      have hrbe : rb=r * wB+wd l p3:=by rw [hrb,hra]
      have HGP:=Lib.hid hgp
      have HRB2:=Lib.hid hrbe
      clear hgp hra hrb hrbe
      by_cases hC : (rb : Int)<(gp : Int)
      ·have hC' : decide (rb<gp)=true:=decide_eq_true (by omega)
       have hov:=HKN.out.over HE.out (.inr (by rw [← HRB2.out,← HGP.out]; omega))
       obtain ⟨g1,hg1⟩ : ∃ g1,g=g1+1:=⟨g - 1,by omega⟩
       have he1 : g1 * wd vl k1+r2=T:=by have:=HE.out; rw [HR2.out]; rw [hg1,Nat.add_mul,Nat.one_mul] at this; omega
       have HOV:=Lib.hid hov
       have HE1:=Lib.hid he1
       have HG1:=Lib.hid hg1
       have sG : (g : Int) - 1=(g1 : Int):=by omega
       have bG : (g1 : Int)≤1000000000:=by have:=HGB.out; rw [wB_eq] at this; omega
       have HFO : Hid (wB≤r2→g1≤q+1∧g1<wB):=Lib.hid fun h=>HKN.out.out HE1.out (by have:=HGB.out; have:=HG1.out; omega) h
       clear hov he1 hg1 hC
       go_wp2
       go_quiet (fail)
       clear hsR hA' hC'
       go_wp2
       go_roundw
       case rel=>exact ⟨g1,r2,rfl,rfl,HE1.out,by have:=HOV.out; have:=HG1.out; omega,by have:=HGB.out; have:=HG1.out; omega,by omega,HFO.out,hs.drewN _⟩
       case measure=>have:=HG1.out; simp [intOf]; omega
      ·have hC' : decide (rb<gp)=false:=decide_eq_false (by omega)
       have hdn:=HKN.out.done HE.out (by rw [wB_eq]; omega) (by rw [← HRB2.out,← HGP.out]; omega)
       have HFIN : Hid ((g=q∨g=q+1)∧g<wB):=Lib.hid ⟨by have:=HQG.out; omega,by rw [wB_eq]; omega⟩
       clear hdn hC
       go_wp2
       go_quiet (fail)
       clear hA' hg9 s10 s11 s12 b10 b11 b12 w10 w11 w12 s14 br2 br hC'
       clear hsR bR
       go_wp2_with fail
       have hrw:=fun wz hz=>reduce_walk (n * f) (m * f) Lq j q g l vl qs w4 wz gu gv gq cu cv Lq hz (by rw [HLL2.out]; exact HD.out) hokv HVV2.out (by rw [HLL2.out,HVLL.out]; exact HLUQ.out) (by omega) (by rw [HLL2.out]; omega) HQ.out HKN.out.q_lt HFIN.out.1 HFIN.out.2
       rw [HLL2.out] at hrw
       refine (hrw _ (hs.drewN _)).mono ?_
       rintro e w12 ⟨_,rfl,rfl,l2,hdv2,hs2⟩
       have cq:=hs2.q.cell j (by have:=HQL.out; omega)
       have fq:=hs2.q.free j
       have HDV:=Lib.hid hdv2
       clear hdv2 hs
       go_wp2
       go_roundw
       case rel=>exact ⟨j,_,_,by omega,rfl,HDV.out,hs2.set_q j q⟩
       case measure=>simp [intOf]
    ·have hsR : decide ((r : Int)<1000000000)=false:=decide_eq_false hR
     have bR : True:=trivial
     have HFIN : Hid ((g=q∨g=q+1)∧g<wB):=Lib.hid (by
      have h1:=HF0.out (by rw [wB_eq]; omega)
      have:=HQG.out
      exact ⟨by omega,h1.2⟩)
     clear hR
     go_wp2
     go_quiet (fail)
     clear s14 br
     clear hsR bR
     go_wp2_with fail
     have hrw:=fun wz hz=>reduce_walk (n * f) (m * f) Lq j q g l vl qs w4 wz gu gv gq cu cv Lq hz (by rw [HLL2.out]; exact HD.out) hokv HVV2.out (by rw [HLL2.out,HVLL.out]; exact HLUQ.out) (by omega) (by rw [HLL2.out]; omega) HQ.out HKN.out.q_lt HFIN.out.1 HFIN.out.2
     rw [HLL2.out] at hrw
     refine (hrw _ (hs.drewN _)).mono ?_
     rintro e w12 ⟨_,rfl,rfl,l2,hdv2,hs2⟩
     have cq:=hs2.q.cell j (by have:=HQL.out; omega)
     have fq:=hs2.q.free j
     have HDV:=Lib.hid hdv2
     clear hdv2 hs
     go_wp2
     go_roundw
     case rel=>exact ⟨j,_,_,by omega,rfl,HDV.out,hs2.set_q j q⟩
     case measure=>simp [intOf]
theorem rOver_walk (v u : Value) (n m : Nat) (hm : 0<m) (w : World) (h : Num w v n) (g : Num w u m) (hf : (wds n).length≤900000000) :
  Calls Tryz.prog 167 #[v,u] w (Ret2 fun v1 v2 w'=>Num w' v1 (n / m)∧Num w' v2 (n % m)∧Below w.heap.size w w'):=by
 rcases Nat.lt_or_ge n m with h1 | h1
 ·exact rOver_less v u n m h1 w h g
 ·rcases Nat.lt_or_ge m wB with h2 | h2
  ·exact rOver_word v u n m h1 hm h2 w h g (by omega)
  ·refine rOver_long v u n m h1 ?_ w h g hf
   rcases Nat.lt_or_ge (wds m).length 2 with h3 | h3
   ·have:=lt_wds_pow m
    have h4 : wB ^ (wds m).length≤wB ^ 1:=Nat.pow_le_pow_right wB_pos (by omega)
    rw [Nat.pow_one] at h4
    omega
   ·exact h3
end Go.Proofs.YtbnbaokamccmjaaGreatDoor

/- garboardref01: word, wide, Common. -/
namespace Go.Proofs.YtbnbaokamccmjaaGreatDoor
open Go Go.RowKit
theorem val_drop_cons (l : List Nat) {j : Nat} (h : j<l.length) : val (l.drop j)=wd l j+wB * val (l.drop (j+1)):=by
 rw [List.drop_eq_getElem_cons h]
 simp only [val,wd]
 rw [List.getD_eq_getElem?_getD,List.getElem?_eq_getElem h]; rfl
theorem val_drop_le (l : List Nat) {j : Nat} (h : j≤l.length) : val (l.drop j)≤val l:=by
 rw [val_split l j h]
 have : 1 * val (l.drop j)≤wB ^ j * val (l.drop j):=Nat.mul_le_mul_right _ (Nat.pow_pos wB_pos)
 omega
set_option maxHeartbeats 1000000 in
theorem rword_walk (v : Value) (n : Nat) (hn : n<wB * wB) (w : World) (h : Num w v n) :
  Calls Tryz.prog 165 #[v] w fun e w'=>e=.returned (.int .u64 n)∧Below w.heap.size w w':=by
 obtain ⟨A,cap,rfl,h1,hc,hcell⟩:=h.open
 clear h
 have hl2:=wds_len_lt hn
 have HN:=Lib.hid hn
 go_enter Tryz.func165,Tryz.ntmps165
 go_wp2
 go_loopw [3,4] (fun tt ii wr=>∃ t : Nat,t≤(wds n).length∧tt=.int .u64 (val ((wds n).drop t) : Nat)∧ii=.int .i64 ((t : Int) - 1)∧Below w.heap.size w wr) (fun _ ii _=>(intOf ii+1).toNat)
 case atStart =>
  refine ⟨(wds n).length,Nat.le_refl _, ?_,rfl,Below.refl _ _⟩
  rw [List.drop_length]; rfl
 case round =>
  obtain ⟨t,ht,rfl,rfl,hb⟩:=hrel
  by_cases h0 : t=0
  ·subst h0
   rw [List.drop_zero,val_wds]
   go_wp2
   go_ret
   exact ⟨rfl,hb⟩
  ·obtain ⟨j,rfl⟩ : ∃ j,t=j+1:=⟨t - 1,by omega⟩
   obtain ⟨b,off,rfl,hcl⟩:=hcell (by omega)
   have hck:=cell_below hb (hcl j (by omega))
   have hx1 : (wd (wds n) j : Int)≤999999999:=word_lt (okw_wds n) j
   have hv:=val_drop_cons (wds n) (j:=j) (by omega)
   have hle:=val_drop_le (wds n) (j:=j) (by omega)
   rw [val_wds] at hle
   obtain ⟨x,hx⟩ : ∃ x,x=val ((wds n).drop (j+1)):=⟨_,rfl⟩
   rw [← hx] at hv ⊢
   have hbig : (x : Int) * 1000000000 + (wd (wds n) j : Int)≤999999999999999999:=by
    have:=HN.out
    rw [wB_eq] at hv this; omega
   have hv' : (x : Int) * 1000000000 + (wd (wds n) j : Int)=(val ((wds n).drop j) : Nat):=by rw [hv,wB_eq]; omega
   have HV:=Lib.hid hv'
   rw [show ((j+1 : Nat) : Int) - 1=(j : Int) by omega]
   have hcond : (0 : Int)≤(j : Int):=by omega
   clear hv hx hv' hle hn
   go_wp2
   go_roundw
   case rel=>exact ⟨j,by omega,by have:=HV.out; go_num,rfl,by first | exact hb | exact below_drewN hb _⟩
   case measure=>simp [intOf]
set_option maxHeartbeats 400000 in
theorem rwide_walk (x : Nat) (hx : x<wB * wB) (w : World) :
  Calls Tryz.prog 166 #[.int .u64 x] w (Ret fun v w'=>NumO w' w.heap.size v x∧Below w.heap.size w w'):=by
 have hx' : (x : Int)<1000000000000000000:=by rw [wB_eq] at hx; omega
 have hx0 : (0 : Int)≤x:=by omega
 have h3 : x / wB / wB=0:=by rw [Nat.div_div_eq_div_mul]; exact Nat.div_eq_of_lt hx
 have h3' : (x : Int) / 1000000000 / 1000000000=0:=by
  rw [wB_eq] at h3; omega
 have h2' : (x : Int) / 1000000000 % 1000000000=(x : Int) / 1000000000:=by omega
 go_enter Tryz.func166,Tryz.ntmps166
 go_wp2_with fail
 have hv : val [x % wB,x / wB,0]=x:=by simp only [val,Nat.mul_zero,Nat.add_zero]; exact Nat.mod_add_div x wB
 have ho : Okw [x % wB,x / wB,0]:=Okw.cons (Nat.mod_lt _ wB_pos) (Okw.cons (by rw [Nat.div_lt_iff_lt_mul wB_pos]; exact hx) (Okw.cons wB_pos Okw.nil))
 have hcs : (#[Value.int IntKind.u32 ((x : Int) % 1000000000),Value.int IntKind.u32 ((x : Int) / 1000000000),Value.int IntKind.u32 0] : Array Value)=(u32s [x % wB,x / wB,0]).toArray:=by
  simp [u32s,wB_eq]
 have hown : Own (w.alloc (.cells #[Value.int IntKind.u32 ((x : Int) % 1000000000),Value.int IntKind.u32 ((x : Int) / 1000000000),Value.int IntKind.u32 0] 184)) w.heap.size (.slice (some ⟨w.heap.size,0,none⟩) 3 3) [x % wB,x / wB,0]:=by
  rw [hcs]
  exact World.ownsRow_lit (base:=w.heap.size) (size:=1) w (u32s [x % wB,x / wB,0]).toArray 3 (Nat.le_refl _) (by decide) rfl
 simp only [h2',h3'] at *
 refine (rtrim_walk _ [x % wB,x / wB,0] 3 _ hown.u32 ho).mono ?_
 rintro e w1 ⟨rfl,rfl⟩
 have H:=hown.trim ho
 rw [hv] at H ⊢
 go_wp2
 go_ret
 exact ⟨_,rfl,H,(Below.refl _ _).alloc (Nat.le_refl _) _⟩
theorem wds_len_le2 {n : Nat} (h : (wds n).length≤2) : n<wB * wB:=by
 have h1:=lt_wds_pow n
 have h2 : wB ^ (wds n).length≤wB ^ 2:=Nat.pow_le_pow_right wB_pos h
 rw [Nat.pow_two] at h2
 omega
set_option maxRecDepth 100000 in
set_option maxHeartbeats 2000000 in
theorem rCommon_walk (v u : Value) (n m : Nat) (w : World) (h : Num w v n) (g : Num w u m) (hf : (wds n).length≤900000000) (gf : (wds m).length≤900000000) :
  Calls Tryz.prog 142 #[v,u] w (Ret fun v1 w'=>Num w' v1 (Nat.gcd n m)∧Below w.heap.size w w'):=by
 go_enter Tryz.func142,Tryz.ntmps142
 go_wp2
 go_loopg [0,1] m (fun k s0 s1 wr=>∃ a b : Nat,k=b∧Hid (Nat.gcd a b=Nat.gcd n m)∧Num wr s0 a∧Num wr s1 b∧(wds a).length≤900000000∧(wds b).length≤900000000∧Below w.heap.size w wr)
 case atStart=>exact ⟨n,m,rfl,rfl,h,g,hf,gf,Below.refl _ _⟩
 case round =>
  clear h g hf gf
  obtain ⟨a,b,rfl,hg,ha,hb,la,lb,hbel⟩:=hrel
  obtain ⟨A,cap,hAe,_,_,_⟩:=ha.open
  obtain ⟨B,cap',hBe,_,_,_⟩:=hb.open
  subst hAe
  subst hBe
  by_cases h0 : gk=0
  ·subst h0
   rw [wds_zero] at *
   go_wp2
   go_ret
   have:=hg.out
   rw [Nat.gcd_zero_right] at this
   subst this
   exact ⟨_,rfl,ha,hbel⟩
  ·have hb0 : 0<(wds gk).length:=wds_length_pos.2 (by omega)
   have HB0:=Lib.hid h0
   clear h0
   by_cases hs : (wds a).length≤2∧(wds gk).length≤2
   ·have sa:=wds_len_le2 hs.1
    have sb:=wds_len_le2 hs.2
    have HS:=Lib.hid (And.intro sa sb)
    obtain ⟨l1,l2⟩:=hs
    clear sa sb
    go_wp2_with fail
    clear l1 l2
    refine (rword_walk _ a HS.out.1 wr ha).mono ?_
    rintro e w1 ⟨rfl,hb1⟩
    have hB1:=bn hbel hb1
    go_wp2_with fail
    refine (rword_walk _ gk HS.out.2 w1 (hb.below hb1)).mono ?_
    rintro e w2 ⟨rfl,hb2⟩
    have hB2:=bn hB1 hb2
    clear hb1 hb2 hB1 ha hb hbel hb0 la lb
    go_wp2
    go_loopw [5,6] (fun xx yy wx=>∃ x y : Nat,xx=.int .u64 x∧yy=.int .u64 y∧Hid (Nat.gcd x y=Nat.gcd n m)∧Hid (x<wB * wB∧y<wB * wB)∧Below w.heap.size w wx) (fun _ yy _=>(intOf yy).toNat)
    case atStart=>exact ⟨a,gk,rfl,rfl,hg,HS,hB2⟩
    case round =>
     clear hg HS HB0 hB2
     obtain ⟨x,y,rfl,rfl,hg,hs,hbel⟩:=hrel
     have bx : (x : Int)≤999999999999999999:=by have:=hs.out.1; rw [wB_eq] at this; omega
     have by' : (y : Int)≤999999999999999999:=by have:=hs.out.2; rw [wB_eq] at this; omega
     by_cases hy : y=0
     ·subst hy
      go_wp2_with fail
      refine (rwide_walk x hs.out.1 _).mono ?_
      rintro e w3 ⟨v3,rfl,g1,g2⟩
      go_wp2
      go_ret
      have:=hg.out
      rw [Nat.gcd_zero_right] at this
      subst this
      exact ⟨_,rfl,g1.num,bn hbel g2⟩
     ·have hy1 : (1 : Int)≤y:=by omega
      have hyy : ¬ (y : Int)=0:=by omega
      obtain ⟨z,hz⟩ : ∃ z,z=x % y:=⟨_,rfl⟩
      have sz : (x : Int).tmod (y : Int)=(z : Int):=by rw [Int.tmod_eq_emod_of_nonneg (Int.natCast_nonneg _),hz,Int.natCast_emod]
      have sz' : (x : Int) % (y : Int)=(z : Int):=by rw [hz,Int.natCast_emod]
      have hzy : z<y:=by rw [hz]; exact Nat.mod_lt _ (by omega)
      have hgz : Hid (Nat.gcd y z=Nat.gcd n m):=by
       show Nat.gcd y z=Nat.gcd n m
       rw [hz,Nat.gcd_comm y,← Nat.gcd_rec,Nat.gcd_comm]; exact hg.out
      have HZ:=Lib.hid hz
      clear hz
      go_wp2
      go_quiet (fail)
      go_wp2
      go_roundw
      case rel=>exact ⟨y,z,rfl,rfl,hgz,⟨hs.out.2,Nat.lt_trans hzy hs.out.2⟩,below_drewN hbel _⟩
      case measure=>simp [intOf]; omega
   ·have hov:=rOver_walk (.slice A (wds a).length cap) (.slice B (wds gk).length cap') a gk (by have:=HB0.out; omega) wr ha hb la
    have hgz : Hid (Nat.gcd gk (a % gk)=Nat.gcd n m):=by
     show Nat.gcd gk (a % gk)=Nat.gcd n m
     rw [Nat.gcd_comm gk,← Nat.gcd_rec,Nat.gcd_comm]; exact hg.out
    have hlt : a % gk<gk:=Nat.mod_lt _ (by have:=HB0.out; omega)
    have hlen : (wds (a % gk)).length≤900000000:=Nat.le_trans (wds_mono_length (Nat.le_of_lt hlt)) lb
    have HLT:=Lib.hid hlt
    have HOV:=Lib.hid hov
    clear hlt hov
    by_cases h1 : (wds a).length≤2
    ·have h2 : ¬ (wds gk).length≤2:=fun h2=>hs ⟨h1,h2⟩
     clear hs
     go_wp2_with fail
     refine HOV.out.mono ?_
     rintro e w3 ⟨v1,v2,rfl,r1,r2,r3⟩
     go_wp2
     go_roundg (a % gk)
     case measure=>exact HLT.out
     case rel=>exact ⟨gk,a % gk,rfl,hgz,hb.below r3,r2,lb,hlen,bn hbel r3⟩
    ·clear hs
     go_wp2_with fail
     refine HOV.out.mono ?_
     rintro e w3 ⟨v1,v2,rfl,r1,r2,r3⟩
     go_wp2
     go_roundg (a % gk)
     case measure=>exact HLT.out
     case rel=>exact ⟨gk,a % gk,rfl,hgz,hb.below r3,r2,lb,hlen,bn hbel r3⟩
end Go.Proofs.YtbnbaokamccmjaaGreatDoor

/- garboardref02: Make, Signum, Opposite, Small. -/
namespace Go.Proofs.YtbnbaokamccmjaaGreatDoor
open Go Go.RowKit
theorem Num.set {W : World} {v : Value} {n : Nat} (h : Num W v n) {p : Addr} {x : Value} (hp : W.cell? p=some x) (hx : ∀ k i,x≠.int k i) (u : Value) : Num (W.setCell p u) v n:=by
 obtain ⟨A,cap,rfl,hn,hc,hcell⟩:=h.open
 refine U32.mk hn hc fun h0=>?_
 obtain ⟨b,off,hA,hcl⟩:=hcell h0
 refine ⟨b,off,hA,fun j hj=>?_⟩
 have hj':=hcl j hj
 have hne : (⟨b,off+j,none⟩ : Addr)≠p:=fun e=>by
  rw [e,hp] at hj'
  exact hx _ _ (Option.some.inj hj')
 exact (World.cell?_setCell_other (h:=fun e=>hne e.symm) ..).trans hj'
def zmk (b : Bool) (n : Nat) : Int:=if b then -(n : Int) else n
theorem zmk_neg (b : Bool) (n : Nat) : decide (zmk b n<0)=(b && decide (0<n)):=by
 cases b<;>simp [zmk]
theorem zmk_abs (b : Bool) (n : Nat) : (zmk b n).natAbs=n:=by
 cases b<;>simp [zmk]
theorem zmk_self (i : Int) : zmk (decide (i<0)) i.natAbs=i:=by
 unfold zmk
 by_cases h : i<0
 ·simp [h]; omega
 ·simp [h]; omega
def Zn (w : World) (z : Value) (i : Int) : Prop:=∃ v,z=.agg #[.bool (decide (i<0)),v]∧Num w v i.natAbs
theorem Zn.below {w w1 : World} {z : Value} {i : Int} (h : Zn w z i) (hb : Below w.heap.size w w1) : Zn w1 z i:=by
 obtain ⟨v,hv,hn⟩:=h
 exact ⟨v,hv,hn.below hb⟩
theorem Zn.set {W : World} {z : Value} {i : Int} (h : Zn W z i) {p : Addr} {x : Value} (hp : W.cell? p=some x) (hx : ∀ k i,x≠.int k i) (u : Value) : Zn (W.setCell p u) z i:=by
 obtain ⟨v,hv,hn⟩:=h
 exact ⟨v,hv,hn.set hp hx u⟩
theorem zn_mk {w : World} {b : Bool} {v : Value} {n : Nat} (h : Num w v n) : Zn w (.agg #[.bool (b && decide (0<n)),v]) (zmk b n) :=
 ⟨v,by rw [zmk_neg],by rw [zmk_abs]; exact h⟩
theorem zn_of {w : World} {c b : Bool} {v : Value} {n : Nat} {i : Int} (hc : c=(b && decide (0<n))) (hi : zmk b n=i) (h : Num w v n) : Zn w (.agg #[.bool c,v]) i:=by
 subst hc hi; exact zn_mk h
set_option maxHeartbeats 400000 in
theorem zMake_walk (b : Bool) (v : Value) (n : Nat) (w : World) (h : Num w v n) :
  Calls Tryz.prog 145 #[.bool b,v] w fun e w'=>e=.returned (.agg #[.bool (b && decide (0<n)),v])∧Below w.heap.size w w':=by
 obtain ⟨A,cap,rfl,h1,hc,hcell⟩:=h.open
 clear hcell h
 have hd : decide ((0 : Int)<((wds n).length : Int))=decide (0<n):=by
  have:=@wds_length_pos n
  by_cases h : 0<n
  ·rw [decide_eq_true h,decide_eq_true (by have:=this.2 h; omega)]
  ·rw [decide_eq_false h,decide_eq_false (fun h2=>h (this.1 (by omega)))]
 cases b
 ·go_enter Tryz.func145,Tryz.ntmps145
  go_wp2
  refine bodyPost_ret (v:=.agg #[.bool false,.slice A (wds n).length cap]) (by simp [results,Tryz.results145,go_sem, *]) rfl ?_
  exact ⟨rfl,bel⟩
 ·go_enter Tryz.func145,Tryz.ntmps145
  go_wp2
  have hlp:=@wds_length_pos n
  refine bodyPost_ret (v:=.agg #[.bool (decide (0<n)),.slice A (wds n).length cap]) (by simp [results,Tryz.results145,go_sem, *]) rfl ?_
  exact ⟨by simp,bel⟩
theorem zSignum_walk (z : Value) (i : Int) (w : World) (h : Zn w z i) :
  Calls Tryz.prog 99 #[z] w fun e w'=>e=.returned (.int .i64 i.sign)∧Below w.heap.size w w':=by
 obtain ⟨v,rfl,h⟩:=h
 obtain ⟨A,cap,rfl,h1,hc,hcell⟩:=h.open
 clear hcell h
 by_cases h0 : i<0
 ·rw [decide_eq_true h0,Int.sign_eq_neg_one_of_neg h0]
  clear h0
  go_enter Tryz.func99,Tryz.ntmps99
  go_wp2
  go_ret
  exact ⟨rfl,bel⟩
 ·rw [decide_eq_false h0]
  by_cases hz : i=0
  ·subst hz
   simp only [Int.natAbs_zero,wds_zero,List.length_nil,Int.sign_zero] at *
   go_enter Tryz.func99,Tryz.ntmps99
   go_wp2
   go_ret
   exact ⟨rfl,bel⟩
  ·have hp : (0 : Int)<((wds i.natAbs).length : Int):=by have:=(@wds_length_pos i.natAbs).2 (by omega); omega
   rw [Int.sign_eq_one_of_pos (by omega)]
   clear hz h0
   go_enter Tryz.func99,Tryz.ntmps99
   go_wp2
   go_ret
   exact ⟨rfl,bel⟩
set_option maxHeartbeats 400000 in
theorem zOpposite_walk (z : Value) (i : Int) (w : World) (h : Zn w z i) :
  Calls Tryz.prog 103 #[z] w (Ret fun v' w'=>Zn w' v' (-i)∧Below w.heap.size w w'):=by
 obtain ⟨v,rfl,h⟩:=h
 obtain ⟨A,cap,hA,h1,hc,hcell⟩:=h.open
 subst hA
 clear hcell
 obtain ⟨b,hb⟩ : ∃ b,b=decide (i<0):=⟨_,rfl⟩
 have HI : Hid (zmk (!b) i.natAbs = -i):=Lib.hid (by
  have:=zmk_self i
  rw [← hb] at this
  cases b<;>simp [zmk] at this ⊢<;>omega)
 rw [← hb]
 clear hb
 go_enter Tryz.func103,Tryz.ntmps103
 go_wp2_with fail
 refine (zMake_walk (!b) _ i.natAbs _ (h.below bel)).mono ?_
 rintro e w1 ⟨rfl,g1⟩
 obtain ⟨c,hcc⟩ : ∃ c,c=(!b && decide (0<i.natAbs)):=⟨_,rfl⟩
 rw [← hcc]
 have HC:=Lib.hid hcc
 clear hcc
 have hz1 : w.heap.size+1<w1.heap.size:=hzs g1
 have hz1_0 : w.heap.size<w1.heap.size:=by omega
 have B1:=bn (w:=w) bel g1
 have c1_1_0:=bcv g1 (w.heap.size+1) 0 (.bool false)
 have f1_1_0:=bfv g1 (w.heap.size+1) 0
 have c1_1_1:=bcv g1 (w.heap.size+1) 1 (.slice none 0 0)
 have f1_1_1:=bfv g1 (w.heap.size+1) 1
 clear g1
 go_wp2
 refine bodyPost_ret (v:=.agg #[.bool c,.slice A (wds i.natAbs).length cap]) (by simp [results,Tryz.results103,go_sem, *]) rfl ?_
 exact ⟨_,rfl,by rw [HC.out,← HI.out]; exact zn_mk (h.below bel),bel⟩
theorem Num.set2 {W : World} {v : Value} {n : Nat} (h : Num W v n) {p q : Addr} {x y : Value} (hp : W.cell? p=some x) (hx : ∀ k i,x≠.int k i) (hq : W.cell? q=some y) (hy : ∀ k i,y≠.int k i) (hpq : p≠q) (u r : Value) : Num ((W.setCell p u).setCell q r) v n :=
 (h.set hp hx u).set ((World.cell?_setCell_other (h:=hpq) ..).trans hq) hy r
set_option maxHeartbeats 400000 in
theorem zSmall_walk (k : Int) (hk0 : -4294967295≤k) (hk : k≤4294967295) (w : World) :
  Calls Tryz.prog 163 #[.int .i64 k] w (Ret fun v' w'=>Zn w' v' k∧Below w.heap.size w w'):=by
 by_cases h0 : k<0
 ·obtain ⟨n,rfl⟩ : ∃ n : Nat,k = -(n : Int):=⟨k.natAbs,by omega⟩
  have hn : n≤4294967295:=by omega
  have hn0 : 0<n:=by omega
  have HI : Hid (zmk true n = -(n : Int)):=Lib.hid rfl
  go_enter Tryz.func163,Tryz.ntmps163
  go_wp2_with fail
  refine (rSmall_walk n hn _).mono ?_
  rintro e w1 ⟨v1,rfl,r1,g1⟩
  obtain ⟨A,cap,hA,_,_,_⟩:=r1.num.open
  subst hA
  have hz1 : w.heap.size<w1.heap.size:=hzs g1
  have B1:=bn (w:=w) bel g1
  have c1_0_0:=bcv g1 w.heap.size 0 (.bool false)
  have f1_0_0:=bfv g1 w.heap.size 0
  have c1_0_1:=bcv g1 w.heap.size 1 (.slice none 0 0)
  have f1_0_1:=bfv g1 w.heap.size 1
  clear g1
  go_wp2_with fail
  refine (zMake_walk true _ n _ (r1.num.below bel)).mono ?_
  rintro e w2 ⟨rfl,g2⟩
  have r2:=r1.num.below g2
  have hz2 : w.heap.size<w2.heap.size:=hzs g2
  have B2:=bn (w:=w) bel g2
  have c2_0_0:=bcv g2 w.heap.size 0 (.bool false)
  have f2_0_0:=bfv g2 w.heap.size 0
  have c2_0_1:=bcv g2 w.heap.size 1 (.slice none 0 0)
  have f2_0_1:=bfv g2 w.heap.size 1
  clear g2
  go_wp2
  refine bodyPost_ret (v:=.agg #[.bool true,.slice A (wds n).length cap]) (by simp [results,Tryz.results163,go_sem, *]) rfl ?_
  exact ⟨_,rfl,zn_of (by simp [hn0]) HI.out (r2.set2 c2_0_0 (by simp) c2_0_1 (by simp) (by simp) _ _),bel⟩
 ·obtain ⟨n,rfl⟩ : ∃ n : Nat,k=(n : Int):=⟨k.natAbs,by omega⟩
  have hn : n≤4294967295:=by omega
  have HI : Hid (zmk false n=(n : Int)):=Lib.hid rfl
  go_enter Tryz.func163,Tryz.ntmps163
  go_wp2_with fail
  refine (rSmall_walk n hn _).mono ?_
  rintro e w1 ⟨v1,rfl,r1,g1⟩
  obtain ⟨A,cap,hA,_,_,_⟩:=r1.num.open
  subst hA
  have hz1 : w.heap.size<w1.heap.size:=hzs g1
  have B1:=bn (w:=w) bel g1
  have c1_0_0:=bcv g1 w.heap.size 0 (.bool false)
  have f1_0_0:=bfv g1 w.heap.size 0
  have c1_0_1:=bcv g1 w.heap.size 1 (.slice none 0 0)
  have f1_0_1:=bfv g1 w.heap.size 1
  clear g1
  go_wp2_with fail
  refine (zMake_walk false _ n _ (r1.num.below bel)).mono ?_
  rintro e w2 ⟨rfl,g2⟩
  have r2:=r1.num.below g2
  have hz2 : w.heap.size<w2.heap.size:=hzs g2
  have B2:=bn (w:=w) bel g2
  have c2_0_0:=bcv g2 w.heap.size 0 (.bool false)
  have f2_0_0:=bfv g2 w.heap.size 0
  have c2_0_1:=bcv g2 w.heap.size 1 (.slice none 0 0)
  have f2_0_1:=bfv g2 w.heap.size 1
  clear g2
  go_wp2
  refine bodyPost_ret (v:=.agg #[.bool false,.slice A (wds n).length cap]) (by simp [results,Tryz.results163,go_sem, *]) rfl ?_
  exact ⟨_,rfl,zn_of (by simp) HI.out (r2.set2 c2_0_0 (by simp) c2_0_1 (by simp) (by simp) _ _),bel⟩
end Go.Proofs.YtbnbaokamccmjaaGreatDoor

/- garboardref02: Plus, Times. -/
namespace Go.Proofs.YtbnbaokamccmjaaGreatDoor
open Go Go.RowKit
set_option maxRecDepth 100000 in
set_option maxHeartbeats 2000000 in
theorem zTimes_at (b1 b2 : Bool) (v u : Value) (n m : Nat) (w : World) (h : Num w v n) (g : Num w u m) (hf : (wds n).length≤100000000) (gf : (wds m).length≤100000000) :
  Calls Tryz.prog 173 #[.agg #[.bool b1,v],.agg #[.bool b2,u]] w (Ret fun v' w'=>Zn w' v' (zmk (b1 != b2) (n * m))∧Below w.heap.size w w'):=by
 obtain ⟨A,cap,hA,_,_,_⟩:=h.open
 subst hA
 obtain ⟨B,cap',hB,_,_,_⟩:=g.open
 subst hB
 obtain ⟨b3,hb3⟩ : ∃ b3,b3=(b1 != b2):=⟨_,rfl⟩
 have hb4 : ∀ w,(binOp .neq 4 (.bool b1) (.bool b2)).run Tryz.prog w=.ok (.bool b3) w:=fun w=>by rw [hb3]; cases b1<;>cases b2<;>rfl
 rw [← hb3]
 clear hb3
 obtain ⟨c,hcc⟩ : ∃ c,c=(b3 && decide (0<(n * m))):=⟨_,rfl⟩
 have hMk:=fun W v q=>zMake_walk b3 v (n * m) W q
 rw [← hcc] at hMk
 have HC:=Lib.hid hcc
 have HM:=Lib.hid hMk
 clear hcc hMk
 have h0:=h
 have g0:=g
 go_enter Tryz.func173,Tryz.ntmps173
 go_wp2
 go_region_held3 (fun w'=>w'.cell? ⟨w.heap.size,0,none⟩=some (.bool b1)∧w'.cell? ⟨w.heap.size,1,none⟩=some (.slice A (wds n).length cap)∧w'.cell? ⟨w.heap.size+1,0,none⟩=some (.bool b2)∧w'.cell? ⟨w.heap.size+1,1,none⟩=some (.slice B (wds m).length cap')∧Below w.heap.size w w')
  ((go_split_ands; refine ⟨?_, ?_, ?_, ?_, ?_⟩<;>first | with_reducible assumption | ((with_reducible refine cal ?_); with_reducible assumption) | ((with_reducible refine bc g ?_); with_reducible assumption) | ((with_reducible refine cset ?_ ?_)<;>first | with_reducible assumption | ((try simp)<;>omega)) | ((with_reducible refine zal ?_); with_reducible assumption) | ((with_reducible refine zset ?_); with_reducible assumption) | ((with_reducible refine Nat.lt_of_lt_of_le ?_ g.size); with_reducible assumption) | ((with_reducible refine ba ?_); with_reducible assumption) | ((with_reducible refine bn ?_ g); with_reducible assumption) | ((with_reducible refine bs ?_ ?_)<;>first | with_reducible assumption | ((try simp)<;>omega)) | ((with_reducible refine Bk.below ?_ g); with_reducible assumption) | ((with_reducible refine Bk.alloc ?_ _); with_reducible assumption) | ((with_reducible refine Bk.far ?_ ?_ _)<;>first | with_reducible assumption | ((try simp)<;>omega)) | ((with_reducible refine Bk.far (Bk.far (Bk.far ?_ ?_ _) ?_ _) ?_ _)<;>first | with_reducible assumption | ((try simp)<;>omega)) | ((with_reducible refine Bk.far (Bk.far (Bk.far (Bk.far ?_ ?_ _) ?_ _) ?_ _) ?_ _)<;>first | with_reducible assumption | ((try simp)<;>omega)) | (go_simp; done) | ((with_reducible refine Bk.drew ?_); exact bkk) | ((with_reducible refine bn ?_ g); exact bel) | exact bel))
  (first | (go_at_call 146; refine (rTimes_walk _ _ n m _ (h0.below (by go_split_ands; assumption)) (g0.below (by go_split_ands; assumption)) (by omega) (by omega)).mono ?_; rintro e w1 ⟨v1,rfl,r1,g1⟩; have g:=g1; have q1:=r1.num; obtain ⟨A1,cap1,hA1,_,_,_⟩:=q1.open; subst hA1; have hz1 : w.heap.size+2<w1.heap.size:=hzs g1; have c1_2_0:=bcv g1 (w.heap.size+1+1) 0 (.bool false); have f1_2_0:=bfv g1 (w.heap.size+1+1) 0; have c1_2_1:=bcv g1 (w.heap.size+1+1) 1 (.slice none 0 0); have f1_2_1:=bfv g1 (w.heap.size+1+1) 1) | (go_at_call 145; refine (HM.out _ _ (by first | exact q1 | exact q1.below (bd (br _)))).mono ?_; rintro e w2 ⟨rfl,g2⟩; have g:=g2; have q2:=(by first | exact q1.below g2 | exact (q1.below (bd (br _))).below g2); have hz2 : w.heap.size+2<w2.heap.size:=hzs g2; have c2_2_0:=bcv g2 (w.heap.size+1+1) 0 (.bool false); have f2_2_0:=bfv g2 (w.heap.size+1+1) 0; have c2_2_1:=bcv g2 (w.heap.size+1+1) 1 (.slice none 0 0); have f2_2_1:=bfv g2 (w.heap.size+1+1) 1))
 go_split_ands
 go_wp2
 refine bodyPost_ret (v:=.agg #[.bool c,.slice A1 (wds (n * m)).length cap1]) (by simp [results,Tryz.results173,go_sem, *]) rfl ?_
 exact ⟨_,rfl,zn_of HC.out rfl (q2.set2 c2_2_0 (by simp) c2_2_1 (by simp) (by simp) _ _),bel⟩
theorem zmk_mul (a b : Int) : zmk (decide (a<0) != decide (b<0)) (a.natAbs * b.natAbs)=a * b:=by
 have ha:=zmk_self a
 have hb:=zmk_self b
 generalize decide (a<0)=p at *
 generalize decide (b<0)=q at *
 generalize a.natAbs=n at *
 generalize b.natAbs=m at *
 subst ha hb
 cases p<;>cases q<;>simp [zmk,Int.neg_mul,Int.mul_neg,Int.natCast_mul]
theorem zTimes_walk (x y : Value) (i j : Int) (w : World) (h : Zn w x i) (g : Zn w y j) (hf : (wds i.natAbs).length≤100000000) (gf : (wds j.natAbs).length≤100000000) :
  Calls Tryz.prog 173 #[x,y] w (Ret fun v' w'=>Zn w' v' (i * j)∧Below w.heap.size w w'):=by
 obtain ⟨v,rfl,h⟩:=h
 obtain ⟨u,rfl,g⟩:=g
 have:=zTimes_at (decide (i<0)) (decide (j<0)) v u i.natAbs j.natAbs w h g hf gf
 rwa [zmk_mul] at this
set_option maxRecDepth 100000 in
set_option maxHeartbeats 2000000 in
theorem zPlus_same (b1 : Bool) (v u : Value) (n m : Nat)  (w : World) (h : Num w v n) (g : Num w u m) (hf : (wds n).length≤100000000) (gf : (wds m).length≤100000000) :
  Calls Tryz.prog 144 #[.agg #[.bool b1,v],.agg #[.bool b1,u]] w (Ret fun v' w'=>Zn w' v' (zmk b1 (n+m))∧Below w.heap.size w w'):=by
 obtain ⟨A,cap,hA,_,_,_⟩:=h.open
 subst hA
 obtain ⟨B,cap',hB,_,_,_⟩:=g.open
 subst hB
 have hb4 : ∀ w,(binOp .eql 4 (.bool b1) (.bool b1)).run Tryz.prog w=.ok (.bool true) w:=fun w=>by cases b1<;>rfl
 obtain ⟨c,hcc⟩ : ∃ c,c=(b1 && decide (0<(n+m))):=⟨_,rfl⟩
 have hMk:=fun W v q=>zMake_walk b1 v (n+m) W q
 rw [← hcc] at hMk
 have HC:=Lib.hid hcc
 have HM:=Lib.hid hMk
 clear hcc hMk
 have h0:=h
 have g0:=g
 go_enter Tryz.func144,Tryz.ntmps144
 go_wp2
 go_region_held3 (fun w'=>w'.cell? ⟨w.heap.size,0,none⟩=some (.bool b1)∧w'.cell? ⟨w.heap.size,1,none⟩=some (.slice A (wds n).length cap)∧w'.cell? ⟨w.heap.size+1,0,none⟩=some (.bool b1)∧w'.cell? ⟨w.heap.size+1,1,none⟩=some (.slice B (wds m).length cap')∧Below w.heap.size w w')
  ((go_split_ands; refine ⟨?_, ?_, ?_, ?_, ?_⟩<;>first | with_reducible assumption | ((with_reducible refine cal ?_); with_reducible assumption) | ((with_reducible refine bc g ?_); with_reducible assumption) | ((with_reducible refine cset ?_ ?_)<;>first | with_reducible assumption | ((try simp)<;>omega)) | ((with_reducible refine zal ?_); with_reducible assumption) | ((with_reducible refine zset ?_); with_reducible assumption) | ((with_reducible refine Nat.lt_of_lt_of_le ?_ g.size); with_reducible assumption) | ((with_reducible refine ba ?_); with_reducible assumption) | ((with_reducible refine bn ?_ g); with_reducible assumption) | ((with_reducible refine bs ?_ ?_)<;>first | with_reducible assumption | ((try simp)<;>omega)) | ((with_reducible refine Bk.below ?_ g); with_reducible assumption) | ((with_reducible refine Bk.alloc ?_ _); with_reducible assumption) | ((with_reducible refine Bk.far ?_ ?_ _)<;>first | with_reducible assumption | ((try simp)<;>omega)) | ((with_reducible refine Bk.far (Bk.far (Bk.far ?_ ?_ _) ?_ _) ?_ _)<;>first | with_reducible assumption | ((try simp)<;>omega)) | ((with_reducible refine Bk.far (Bk.far (Bk.far (Bk.far ?_ ?_ _) ?_ _) ?_ _) ?_ _)<;>first | with_reducible assumption | ((try simp)<;>omega)) | (go_simp; done) | ((with_reducible refine Bk.drew ?_); exact bkk) | ((with_reducible refine bn ?_ g); exact bel) | exact bel))
  (first | (go_at_call 168; refine (rPlus_walk _ _ n m _ (h0.below (by go_split_ands; assumption)) (g0.below (by go_split_ands; assumption)) (by omega) (by omega)).mono ?_; rintro e w1 ⟨v1,rfl,r1,g1⟩; have g:=g1; have q1:=r1.num; obtain ⟨A1,cap1,hA1,_,_,_⟩:=q1.open; subst hA1; have hz1 : w.heap.size+2<w1.heap.size:=hzs g1; have c1_2_0:=bcv g1 (w.heap.size+1+1) 0 (.bool false); have f1_2_0:=bfv g1 (w.heap.size+1+1) 0; have c1_2_1:=bcv g1 (w.heap.size+1+1) 1 (.slice none 0 0); have f1_2_1:=bfv g1 (w.heap.size+1+1) 1) | (go_at_call 145; refine (HM.out _ _ (by first | exact q1 | exact q1.below (bd (br _)))).mono ?_; rintro e w2 ⟨rfl,g2⟩; have g:=g2; have q2:=(by first | exact q1.below g2 | exact (q1.below (bd (br _))).below g2); have hz2 : w.heap.size+2<w2.heap.size:=hzs g2; have c2_2_0:=bcv g2 (w.heap.size+1+1) 0 (.bool false); have f2_2_0:=bfv g2 (w.heap.size+1+1) 0; have c2_2_1:=bcv g2 (w.heap.size+1+1) 1 (.slice none 0 0); have f2_2_1:=bfv g2 (w.heap.size+1+1) 1))
 go_split_ands
 go_wp2
 refine bodyPost_ret (v:=.agg #[.bool c,.slice A1 (wds (n+m)).length cap1]) (by simp [results,Tryz.results144,go_sem, *]) rfl ?_
 exact ⟨_,rfl,zn_of HC.out rfl (q2.set2 c2_2_0 (by simp) c2_2_1 (by simp) (by simp) _ _),bel⟩
set_option maxRecDepth 100000 in
set_option maxHeartbeats 2000000 in
theorem zPlus_ge (b1 : Bool) (v u : Value) (n m : Nat) (hle : m≤n) (w : World) (h : Num w v n) (g : Num w u m) (hf : (wds n).length≤100000000) (gf : (wds m).length≤100000000) :
  Calls Tryz.prog 144 #[.agg #[.bool b1,v],.agg #[.bool (!b1),u]] w (Ret fun v' w'=>Zn w' v' (zmk b1 (n - m))∧Below w.heap.size w w'):=by
 obtain ⟨A,cap,hA,_,_,_⟩:=h.open
 subst hA
 obtain ⟨B,cap',hB,_,_,_⟩:=g.open
 subst hB
 have hb4 : ∀ w,(binOp .eql 4 (.bool b1) (.bool (!b1))).run Tryz.prog w=.ok (.bool false) w:=fun w=>by cases b1<;>rfl
 have hcm : 0≤cmpN n m:=by unfold cmpN; split<;>(try split)<;>omega
 obtain ⟨c,hcc⟩ : ∃ c,c=(b1 && decide (0<(n - m))):=⟨_,rfl⟩
 have hMk:=fun W v q=>zMake_walk b1 v (n - m) W q
 rw [← hcc] at hMk
 have HC:=Lib.hid hcc
 have HM:=Lib.hid hMk
 clear hcc hMk
 have h0:=h
 have g0:=g
 go_enter Tryz.func144,Tryz.ntmps144
 go_wp2_with fail
 refine (rCmp_walk _ _ n m _ (h0.below bel) (g0.below bel)).mono ?_
 rintro e w9 ⟨rfl,g9⟩
 have hz9 : w.heap.size+2<w9.heap.size:=hzs g9
 have hz9_0 : w.heap.size<w9.heap.size:=by omega
 have hz9_1 : w.heap.size+1<w9.heap.size:=by omega
 have B9:=bn (w:=w) bel g9
 have c9_0_0:=bcv g9 w.heap.size 0 (.bool b1)
 have f9_0_0:=bfv g9 w.heap.size 0
 have c9_0_1:=bcv g9 w.heap.size 1 (.slice A (wds n).length cap)
 have f9_0_1:=bfv g9 w.heap.size 1
 have c9_1_0:=bcv g9 (w.heap.size+1) 0 (.bool (!b1))
 have f9_1_0:=bfv g9 (w.heap.size+1) 0
 have c9_1_1:=bcv g9 (w.heap.size+1) 1 (.slice B (wds m).length cap')
 have f9_1_1:=bfv g9 (w.heap.size+1) 1
 have c9_2_0:=bcv g9 (w.heap.size+1+1) 0 (.bool false)
 have f9_2_0:=bfv g9 (w.heap.size+1+1) 0
 have c9_2_1:=bcv g9 (w.heap.size+1+1) 1 (.slice none 0 0)
 have f9_2_1:=bfv g9 (w.heap.size+1+1) 1
 clear g9
 go_wp2
 go_region_held3 (fun w'=>w'.cell? ⟨w.heap.size,0,none⟩=some (.bool b1)∧w'.cell? ⟨w.heap.size,1,none⟩=some (.slice A (wds n).length cap)∧w'.cell? ⟨w.heap.size+1,0,none⟩=some (.bool (!b1))∧w'.cell? ⟨w.heap.size+1,1,none⟩=some (.slice B (wds m).length cap')∧Below w.heap.size w w')
  ((go_split_ands; refine ⟨?_, ?_, ?_, ?_, ?_⟩<;>first | with_reducible assumption | ((with_reducible refine cal ?_); with_reducible assumption) | ((with_reducible refine bc g ?_); with_reducible assumption) | ((with_reducible refine cset ?_ ?_)<;>first | with_reducible assumption | ((try simp)<;>omega)) | ((with_reducible refine zal ?_); with_reducible assumption) | ((with_reducible refine zset ?_); with_reducible assumption) | ((with_reducible refine Nat.lt_of_lt_of_le ?_ g.size); with_reducible assumption) | ((with_reducible refine ba ?_); with_reducible assumption) | ((with_reducible refine bn ?_ g); with_reducible assumption) | ((with_reducible refine bs ?_ ?_)<;>first | with_reducible assumption | ((try simp)<;>omega)) | ((with_reducible refine Bk.below ?_ g); with_reducible assumption) | ((with_reducible refine Bk.alloc ?_ _); with_reducible assumption) | ((with_reducible refine Bk.far ?_ ?_ _)<;>first | with_reducible assumption | ((try simp)<;>omega)) | ((with_reducible refine Bk.far (Bk.far (Bk.far ?_ ?_ _) ?_ _) ?_ _)<;>first | with_reducible assumption | ((try simp)<;>omega)) | ((with_reducible refine Bk.far (Bk.far (Bk.far (Bk.far ?_ ?_ _) ?_ _) ?_ _) ?_ _)<;>first | with_reducible assumption | ((try simp)<;>omega)) | (go_simp; done) | ((with_reducible refine Bk.drew ?_); exact bkk) | ((with_reducible refine bn ?_ g); exact bel) | exact bel))
  (first | (go_at_call 169; refine (rMinus_walk _ _ n m hle _ (h0.below (by go_split_ands; assumption)) (g0.below (by go_split_ands; assumption)) (by omega)).mono ?_; rintro e w1 ⟨v1,rfl,r1,g1⟩; have g:=g1; have q1:=r1.num; obtain ⟨A1,cap1,hA1,_,_,_⟩:=q1.open; subst hA1; have hz1 : w.heap.size+2<w1.heap.size:=hzs g1; have c1_2_0:=bcv g1 (w.heap.size+1+1) 0 (.bool false); have f1_2_0:=bfv g1 (w.heap.size+1+1) 0; have c1_2_1:=bcv g1 (w.heap.size+1+1) 1 (.slice none 0 0); have f1_2_1:=bfv g1 (w.heap.size+1+1) 1) | (go_at_call 145; refine (HM.out _ _ (by first | exact q1 | exact q1.below (bd (br _)))).mono ?_; rintro e w2 ⟨rfl,g2⟩; have g:=g2; have q2:=(by first | exact q1.below g2 | exact (q1.below (bd (br _))).below g2); have hz2 : w.heap.size+2<w2.heap.size:=hzs g2; have c2_2_0:=bcv g2 (w.heap.size+1+1) 0 (.bool false); have f2_2_0:=bfv g2 (w.heap.size+1+1) 0; have c2_2_1:=bcv g2 (w.heap.size+1+1) 1 (.slice none 0 0); have f2_2_1:=bfv g2 (w.heap.size+1+1) 1))
 go_split_ands
 go_wp2
 refine bodyPost_ret (v:=.agg #[.bool c,.slice A1 (wds (n - m)).length cap1]) (by simp [results,Tryz.results144,go_sem, *]) rfl ?_
 exact ⟨_,rfl,zn_of HC.out rfl (q2.set2 c2_2_0 (by simp) c2_2_1 (by simp) (by simp) _ _),bel⟩
set_option maxRecDepth 100000 in
set_option maxHeartbeats 2000000 in
theorem zPlus_lt (b1 : Bool) (v u : Value) (n m : Nat) (hle : n<m) (w : World) (h : Num w v n) (g : Num w u m) (hf : (wds n).length≤100000000) (gf : (wds m).length≤100000000) :
  Calls Tryz.prog 144 #[.agg #[.bool b1,v],.agg #[.bool (!b1),u]] w (Ret fun v' w'=>Zn w' v' (zmk (!b1) (m - n))∧Below w.heap.size w w'):=by
 obtain ⟨A,cap,hA,_,_,_⟩:=h.open
 subst hA
 obtain ⟨B,cap',hB,_,_,_⟩:=g.open
 subst hB
 have hb4 : ∀ w,(binOp .eql 4 (.bool b1) (.bool (!b1))).run Tryz.prog w=.ok (.bool false) w:=fun w=>by cases b1<;>rfl
 have hcm : ¬ 0≤cmpN n m:=by unfold cmpN; split<;>(try split)<;>omega
 obtain ⟨c,hcc⟩ : ∃ c,c=((!b1) && decide (0<(m - n))):=⟨_,rfl⟩
 have hMk:=fun W v q=>zMake_walk (!b1) v (m - n) W q
 rw [← hcc] at hMk
 have HC:=Lib.hid hcc
 have HM:=Lib.hid hMk
 clear hcc hMk
 have h0:=h
 have g0:=g
 go_enter Tryz.func144,Tryz.ntmps144
 go_wp2_with fail
 refine (rCmp_walk _ _ n m _ (h0.below bel) (g0.below bel)).mono ?_
 rintro e w9 ⟨rfl,g9⟩
 have hz9 : w.heap.size+2<w9.heap.size:=hzs g9
 have hz9_0 : w.heap.size<w9.heap.size:=by omega
 have hz9_1 : w.heap.size+1<w9.heap.size:=by omega
 have B9:=bn (w:=w) bel g9
 have c9_0_0:=bcv g9 w.heap.size 0 (.bool b1)
 have f9_0_0:=bfv g9 w.heap.size 0
 have c9_0_1:=bcv g9 w.heap.size 1 (.slice A (wds n).length cap)
 have f9_0_1:=bfv g9 w.heap.size 1
 have c9_1_0:=bcv g9 (w.heap.size+1) 0 (.bool (!b1))
 have f9_1_0:=bfv g9 (w.heap.size+1) 0
 have c9_1_1:=bcv g9 (w.heap.size+1) 1 (.slice B (wds m).length cap')
 have f9_1_1:=bfv g9 (w.heap.size+1) 1
 have c9_2_0:=bcv g9 (w.heap.size+1+1) 0 (.bool false)
 have f9_2_0:=bfv g9 (w.heap.size+1+1) 0
 have c9_2_1:=bcv g9 (w.heap.size+1+1) 1 (.slice none 0 0)
 have f9_2_1:=bfv g9 (w.heap.size+1+1) 1
 clear g9
 go_wp2
 go_region_held3 (fun w'=>w'.cell? ⟨w.heap.size,0,none⟩=some (.bool b1)∧w'.cell? ⟨w.heap.size,1,none⟩=some (.slice A (wds n).length cap)∧w'.cell? ⟨w.heap.size+1,0,none⟩=some (.bool (!b1))∧w'.cell? ⟨w.heap.size+1,1,none⟩=some (.slice B (wds m).length cap')∧Below w.heap.size w w')
  ((go_split_ands; refine ⟨?_, ?_, ?_, ?_, ?_⟩<;>first | with_reducible assumption | ((with_reducible refine cal ?_); with_reducible assumption) | ((with_reducible refine bc g ?_); with_reducible assumption) | ((with_reducible refine cset ?_ ?_)<;>first | with_reducible assumption | ((try simp)<;>omega)) | ((with_reducible refine zal ?_); with_reducible assumption) | ((with_reducible refine zset ?_); with_reducible assumption) | ((with_reducible refine Nat.lt_of_lt_of_le ?_ g.size); with_reducible assumption) | ((with_reducible refine ba ?_); with_reducible assumption) | ((with_reducible refine bn ?_ g); with_reducible assumption) | ((with_reducible refine bs ?_ ?_)<;>first | with_reducible assumption | ((try simp)<;>omega)) | ((with_reducible refine Bk.below ?_ g); with_reducible assumption) | ((with_reducible refine Bk.alloc ?_ _); with_reducible assumption) | ((with_reducible refine Bk.far ?_ ?_ _)<;>first | with_reducible assumption | ((try simp)<;>omega)) | ((with_reducible refine Bk.far (Bk.far (Bk.far ?_ ?_ _) ?_ _) ?_ _)<;>first | with_reducible assumption | ((try simp)<;>omega)) | ((with_reducible refine Bk.far (Bk.far (Bk.far (Bk.far ?_ ?_ _) ?_ _) ?_ _) ?_ _)<;>first | with_reducible assumption | ((try simp)<;>omega)) | (go_simp; done) | ((with_reducible refine Bk.drew ?_); exact bkk) | ((with_reducible refine bn ?_ g); exact bel) | exact bel))
  (first | (go_at_call 169; refine (rMinus_walk _ _ m n (Nat.le_of_lt hle) _ (g0.below (by go_split_ands; assumption)) (h0.below (by go_split_ands; assumption)) (by omega)).mono ?_; rintro e w1 ⟨v1,rfl,r1,g1⟩; have g:=g1; have q1:=r1.num; obtain ⟨A1,cap1,hA1,_,_,_⟩:=q1.open; subst hA1; have hz1 : w.heap.size+2<w1.heap.size:=hzs g1; have c1_2_0:=bcv g1 (w.heap.size+1+1) 0 (.bool false); have f1_2_0:=bfv g1 (w.heap.size+1+1) 0; have c1_2_1:=bcv g1 (w.heap.size+1+1) 1 (.slice none 0 0); have f1_2_1:=bfv g1 (w.heap.size+1+1) 1) | (go_at_call 145; refine (HM.out _ _ (by first | exact q1 | exact q1.below (bd (br _)))).mono ?_; rintro e w2 ⟨rfl,g2⟩; have g:=g2; have q2:=(by first | exact q1.below g2 | exact (q1.below (bd (br _))).below g2); have hz2 : w.heap.size+2<w2.heap.size:=hzs g2; have c2_2_0:=bcv g2 (w.heap.size+1+1) 0 (.bool false); have f2_2_0:=bfv g2 (w.heap.size+1+1) 0; have c2_2_1:=bcv g2 (w.heap.size+1+1) 1 (.slice none 0 0); have f2_2_1:=bfv g2 (w.heap.size+1+1) 1))
 go_split_ands
 go_wp2
 refine bodyPost_ret (v:=.agg #[.bool c,.slice A1 (wds (m - n)).length cap1]) (by simp [results,Tryz.results144,go_sem, *]) rfl ?_
 exact ⟨_,rfl,zn_of HC.out rfl (q2.set2 c2_2_0 (by simp) c2_2_1 (by simp) (by simp) _ _),bel⟩
end Go.Proofs.YtbnbaokamccmjaaGreatDoor

/- garboardref02: Plus, Valid, Read. -/
namespace Go.Proofs.YtbnbaokamccmjaaGreatDoor
open Go Go.RowKit
theorem zPlus_walk (x y : Value) (i j : Int) (w : World) (h : Zn w x i) (g : Zn w y j) (hf : (wds i.natAbs).length≤100000000) (gf : (wds j.natAbs).length≤100000000) :
  Calls Tryz.prog 144 #[x,y] w (Ret fun v' w'=>Zn w' v' (i+j)∧Below w.heap.size w w'):=by
 obtain ⟨v,rfl,h⟩:=h
 obtain ⟨u,rfl,g⟩:=g
 have hi:=zmk_self i
 have hj:=zmk_self j
 obtain ⟨b1,hb1⟩ : ∃ b,b=decide (i<0):=⟨_,rfl⟩
 obtain ⟨b2,hb2⟩ : ∃ b,b=decide (j<0):=⟨_,rfl⟩
 rw [← hb1] at hi ⊢
 rw [← hb2] at hj ⊢
 clear hb1 hb2
 generalize i.natAbs=n at *
 generalize j.natAbs=m at *
 subst hi hj
 by_cases e : b2=b1
 ·subst e
  have:=zPlus_same b2 v u n m w h g hf gf
  rwa [show zmk b2 (n+m)=zmk b2 n+zmk b2 m by cases b2<;>simp [zmk]<;>omega] at this
 ·obtain rfl : b2 = !b1:=by cases b1<;>cases b2<;>simp_all
  rcases Nat.lt_or_ge n m with hlt | hle
  ·have:=zPlus_lt b1 v u n m hlt w h g hf gf
   rwa [show zmk (!b1) (m - n)=zmk b1 n+zmk (!b1) m by cases b1<;>simp [zmk]<;>omega] at this
  ·have:=zPlus_ge b1 v u n m hle w h g hf gf
   rwa [show zmk b1 (n - m)=zmk b1 n+zmk (!b1) m by cases b1<;>simp [zmk]<;>omega] at this
def tl (s : ByteArray) : ByteArray:=s.extract 1 s.size
theorem tl_toList (s : ByteArray) : (tl s).data.toList=s.data.toList.drop 1:=by
 rw [tl,ext_list,List.take_of_length_le (Nat.le_of_eq (toList_length s))]
theorem of_minus {s : ByteArray} (h1 : 0<s.size) (h0 : bt s 0=45) : s.data.toList=45 :: (tl s).data.toList:=by
 rw [tl_toList]
 have hl:=toList_length s
 unfold bt at h0
 match e : s.data.toList with
 | []=>rw [e] at hl; simp at hl; omega
 | c :: l =>
  rw [e] at h0
  simp at h0
  have : c=45:=UInt8.toNat_inj.1 (by simpa using h0)
  rw [this]; rfl
theorem isIntL_minus (l : List UInt8) : isIntL (45 :: l)=(isNat l && !(l == [48])):=by
 unfold isIntL
 rw [trimPre_minus,hasPre_cons]; rfl
theorem isIntL_nat {l : List UInt8} (h : Lib.hasPrefix l [45]=false) : isIntL l=isNat l:=by
 unfold isIntL
 rw [trimPre_of h,h]; simp
set_option maxHeartbeats 1000000 in
theorem z02_zero (w : World) :
  Calls Tryz.prog 135 #[.string ⟨#[45,48]⟩] w fun e w'=>e=.returned (.bool false)∧Below w.heap.size w w':=by
 go_enter Tryz.func135,Tryz.ntmps135
 go_wp2
 go_ret
 exact ⟨rfl,bel⟩
set_option maxHeartbeats 1000000 in
theorem z02_neg (s : ByteArray) (hs : s.size≤1000000000) (h1 : 1<s.size) (h0 : bt s 0=45) (hne : ¬ s.toList=[45,48]) (w : World) :
  Calls Tryz.prog 135 #[.string s] w fun e w'=>e=.returned (.bool (isNat (tl s).data.toList))∧Below w.heap.size w w':=by
 have hb:=bt_at s 0
 have h0' : (bt s 0 : Int)=45:=by omega
 have hp : 0<s.size:=by omega
 have hne2 : (s.toList == [45,48])=false:=beq_eq_false_iff_ne.2 hne
 have hV:=Lib.hid (fun w=>v01_walk (tl s) (by unfold tl; rw [ByteArray.size_extract]; omega) w)
 go_enter Tryz.func135,Tryz.ntmps135
 go_wp2_with fail
 refine (hV.out _).mono ?_
 rintro e w1 ⟨rfl,rfl⟩
 go_wp2
 go_ret
 exact ⟨rfl,bel⟩
set_option maxHeartbeats 1000000 in
theorem z02_other (s : ByteArray) (hs : s.size≤1000000000) (h : ¬ (1<s.size∧bt s 0=45)) (w : World) :
  Calls Tryz.prog 135 #[.string s] w fun e w'=>e=.returned (.bool (isNat s.data.toList))∧Below w.heap.size w w':=by
 have hV:=Lib.hid (fun w=>v01_walk s (by omega) w)
 by_cases h1 : 1<s.size
 ·have hb:=bt_at s 0
  have h0' : ¬ (bt s 0 : Int)=45:=fun e=>h ⟨h1,by omega⟩
  have h0'' : ((bt s 0 : Int) == 45)=false:=beq_eq_false_iff_ne.2 h0'
  have hp : 0<s.size:=by omega
  clear h
  go_enter Tryz.func135,Tryz.ntmps135
  go_wp2_with fail
  refine (hV.out _).mono ?_
  rintro e w1 ⟨rfl,rfl⟩
  go_wp2
  go_ret
  exact ⟨rfl,bel⟩
 ·clear h
  go_enter Tryz.func135,Tryz.ntmps135
  go_wp2_with fail
  refine (hV.out _).mono ?_
  rintro e w1 ⟨rfl,rfl⟩
  go_wp2
  go_ret
  exact ⟨rfl,bel⟩
theorem z02_walk (s : ByteArray) (hs : s.size≤1000000000) (w : World) :
  Calls Tryz.prog 135 #[.string s] w fun e w'=>e=.returned (.bool (isIntB s))∧Below w.heap.size w w':=by
 unfold isIntB
 by_cases h : 1<s.size∧bt s 0=45
 ·have hl:=of_minus (by omega) h.2
  rw [hl,isIntL_minus]
  by_cases hz : s.toList=[45,48]
  ·obtain rfl : s=⟨#[45,48]⟩:=ba_ext (by rw [← ByteArray.toList_eq,hz])
   exact z02_zero w
  ·have : ((tl s).data.toList == [48])=false:=beq_eq_false_iff_ne.2 fun e=>hz (by rw [ByteArray.toList_eq,hl,e])
   rw [this,Bool.not_false,Bool.and_true]
   exact z02_neg s hs h.1 h.2 hz w
 ·by_cases h0 : Lib.hasPrefix s.data.toList [45]=true
  ·have e:=of_hasPre h0
   have hz : s.size=(Lib.trimPrefix s.data.toList [45]).length+1:=by rw [← toList_length,e,trimPre_minus]; rfl
   have hb : bt s 0=45:=by unfold bt; rw [e]; rfl
   have h1 : ¬ 1<s.size:=fun h1=>h ⟨h1,hb⟩
   have he : Lib.trimPrefix s.data.toList [45]=[]:=List.length_eq_zero_iff.1 (by omega)
   have hw:=z02_other s hs h w
   rw [e,he] at hw ⊢
   exact hw
  ·rw [isIntL_nat (by simpa using h0)]
   exact z02_other s hs h w
theorem bt_minus (i : Int) (h : i<0) : bt (itx i) 0=45:=by
 unfold bt; rw [itx_toList,itoa_neg h]; rfl
theorem bt_plus (i : Int) (h : ¬ i<0) : bt (itx i) 0≠45:=by
 intro e
 have e1:=itoa_nonneg (z:=i) (by omega)
 have hp : 0<(itx i).size:=by rw [← toList_length,itx_toList,e1]; have:=dg_pos i.natAbs; rw [← dg_def,← toList_length,dec_toList] at this; exact this
 have:=(bt_digit (s:=itx i) (by rw [itx_toList,e1]; exact digs_decDigits _) hp).1
 omega
set_option maxHeartbeats 1000000 in
theorem z02Read_walk (i : Int) (hs : (itx i).size≤100000000) (w : World) :
  Calls Tryz.prog 138 #[.string (itx i)] w (Ret fun v w'=>Zn w' v i∧Below w.heap.size w w'):=by
 have hp : 0<(itx i).size:=by
  rw [← toList_length,itx_toList]
  by_cases h : i<0
  ·rw [itoa_neg h]; simp
  ·rw [itoa_nonneg (by omega)]; have:=dg_pos i.natAbs; rw [← dg_def,← toList_length,dec_toList] at this; exact this
 by_cases hi : i<0
 ·have hb:=bt_at (itx i) 0
  have h0 : (bt (itx i) 0 : Int)=45:=by rw [bt_minus i hi]; rfl
  have hl : (tl (itx i)).data.toList=Lib.decDigits i.natAbs:=by rw [tl_toList,itx_toList,itoa_neg hi]; rfl
  have hz : (tl (itx i)).size≤100000000:=by unfold tl; rw [ByteArray.size_extract]; omega
  have hF:=fun w=>rFrom_walk (tl (itx i)) hz (by rw [hl]; exact digs_decDigits _) w
  rw [hl,natOf_decDigits] at hF
  have HF:=Lib.hid hF
  have HI : Hid (i<0):=Lib.hid hi
  clear hF hl hz hi
  generalize hs' : itx i=s at *
  go_enter Tryz.func138,Tryz.ntmps138
  go_wp2_with fail
  refine (HF.out _).mono ?_
  rintro e w1 ⟨v1,rfl,r1,g1⟩
  obtain ⟨A,cap,hA,_,_,_⟩:=r1.num.open
  subst hA
  have hz1 : w.heap.size<w1.heap.size:=hzs g1
  have B1:=bn (w:=w) bel g1
  have c1_0_0:=bcv g1 w.heap.size 0 (.bool false)
  have f1_0_0:=bfv g1 w.heap.size 0
  have c1_0_1:=bcv g1 w.heap.size 1 (.slice none 0 0)
  have f1_0_1:=bfv g1 w.heap.size 1
  clear g1
  go_wp2
  refine bodyPost_ret (v:=.agg #[.bool true,.slice A (wds i.natAbs).length cap]) (by simp [results,Tryz.results138,go_sem, *]) rfl ?_
  exact ⟨_,rfl,zn_of (b:=true) (by have:=HI.out; simp; omega) (by have:=HI.out; simp [zmk]; omega) (r1.num.set2 c1_0_0 (by simp) c1_0_1 (by simp) (by simp) _ _),bel⟩
 ·have hb:=bt_at (itx i) 0
  have h0 : ¬ (bt (itx i) 0 : Int)=45:=fun e=>bt_plus i hi (by omega)
  have h0'' : ((bt (itx i) 0 : Int) == 45)=false:=beq_eq_false_iff_ne.2 h0
  have hl : (itx i).data.toList=Lib.decDigits i.natAbs:=by rw [itx_toList,itoa_nonneg (by omega)]
  have hF:=fun w=>rFrom_walk (itx i) hs (by rw [hl]; exact digs_decDigits _) w
  rw [hl,natOf_decDigits] at hF
  have HF:=Lib.hid hF
  have HI : Hid (¬ i<0):=Lib.hid hi
  clear hF hl hi
  generalize hs' : itx i=s at *
  go_enter Tryz.func138,Tryz.ntmps138
  go_wp2_with fail
  refine (HF.out _).mono ?_
  rintro e w1 ⟨v1,rfl,r1,g1⟩
  obtain ⟨A,cap,hA,_,_,_⟩:=r1.num.open
  subst hA
  have hz1 : w.heap.size<w1.heap.size:=hzs g1
  have B1:=bn (w:=w) bel g1
  have c1_0_0:=bcv g1 w.heap.size 0 (.bool false)
  have f1_0_0:=bfv g1 w.heap.size 0
  have c1_0_1:=bcv g1 w.heap.size 1 (.slice none 0 0)
  have f1_0_1:=bfv g1 w.heap.size 1
  clear g1
  go_wp2
  refine bodyPost_ret (v:=.agg #[.bool false,.slice A (wds i.natAbs).length cap]) (by simp [results,Tryz.results138,go_sem, *]) rfl ?_
  exact ⟨_,rfl,zn_of (b:=false) (by simp) (by have:=HI.out; simp [zmk]; omega) (r1.num.set2 c1_0_0 (by simp) c1_0_1 (by simp) (by simp) _ _),bel⟩
end Go.Proofs.YtbnbaokamccmjaaGreatDoor
