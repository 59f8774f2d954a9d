
/- The library's functions as the program calls them: FormatUint, FormatInt, ParseUint, ParseInt, a Builder's WriteString; and what is asked of the world: the table of powers of ten, and the one variable of the search. -/
import Derived.Test.YtopfedbhkfdjkaaGreatDoorES
import Derived.Test.YtopfedbhkfdjkaaGreatDoorE2
import Derived.Shelf.Strings.BuilderF
import Derived.Lib.AppendIntMem
import Derived.Lib.IndexMore
import Derived.Test.YtopfedbhkfdjkaaGreatDoorE1
import Derived.RangeFuncNested
import Derived.RangeFuncBound
import Derived.RangeFuncCalls
import Derived.RangeFuncBox
import Derived.RangeFuncLeaves
import Derived.Shelf.Abstract
import Derived.Shelf.RegionOpen
import Derived.WalkKit
import Derived.OwnWalkIn
import Derived.TacticsInMore
import Derived.LoopNIn
import Derived.LoopIn
import Derived.Shelf.Strings.BuilderCap
set_option linter.unusedVariables false
set_option linter.unusedSimpArgs false
namespace Go.Proofs.YtopfedbhkfdjkaaGreatDoor
open Go Go.RowKit Go.Sort
structure Bw (w : World) : Prop where
 tab : Lib.TabIs Tryz.prog w "internal/strconv.uint64pow10" .u64 Lib.pow10Tab
 len : ∃ m,w.cell? ⟨0,0,none⟩=some (.int .i64 m)
theorem tabIs_below {P : Program} {w w1 : World} {name : String} {k : IntKind} {zs : List Int} (h : Lib.TabIs P w name k zs) (hb : Below w.heap.size w w1) : Lib.TabIs P w1 name k zs:=by
 unfold Lib.TabIs World.var? at *
 cases hg : P.globalNamed name with
 | none=>simp [hg] at h
 | some g =>
  simp only [hg,Option.bind_some] at h ⊢
  have hlt : g<w.heap.size:=by
   rcases Nat.lt_or_ge g w.heap.size with hl | hl
   ·exact hl
   ·simp [Array.getElem?_eq_none hl] at h
  rw [hb.block g hlt]
  exact h
theorem Bw.below {w w1 : World} (h : Bw w) (hb : Below w.heap.size w w1) : Bw w1:=by
 obtain ⟨m,hm⟩:=h.len
 exact ⟨tabIs_below h.tab hb,m,cell_below hb hm⟩
theorem below_grow (w : World) (k : Nat) (os : Array Obj) : Below w.heap.size w (grow (w.drewN k) os):=by
 refine ⟨rfl,rfl,rfl,by simp [grow],fun i hi=>?_⟩
 simp [grow,Array.getElem?_append_left hi]
theorem below_bytesWorld (w : World) (e : TypeId) (s : ByteArray) : Below w.heap.size w (Lib.bytesWorld w e s):=Lib.bytesWorld_below _ _ _
set_option maxHeartbeats 400000 in
theorem formatInt_walk (n : Int) (h0 : -9223372036854775808≤n) (h1 : n≤9223372036854775807) (w : World) (hB : Bw w) :
  Calls Tryz.prog 228 #[.int .i64 n,.int .i64 10] w fun e w'=>e=.returned (.string ⟨(Lib.itoa n).toArray⟩)∧Below w.heap.size w w' :=
 (Tryz.strconv_FormatInt_10 n h0 h1 w hB.tab).mono fun e w' ⟨he,k,os,hw⟩=>⟨he,by rw [hw]; exact below_grow w k os⟩
theorem parseUint_walk (s : ByteArray) (hmax : s.size≤9223372036854775806) (u : Nat) (h : Lib.parseUintB 32 s.data.toList=.ok u) (w : World) :
  Calls Tryz.prog 232 #[.string s,.int .i64 10,.int .i64 32] w fun e w'=>e=.returned (.tuple #[.int .u64 u,.nilIface])∧Below w.heap.size w w' :=
 (Tryz.strconv_ParseUint_10_at32_ok s hmax u h w).mono fun e w' ⟨he,hw⟩=>⟨he,by rcases hw with rfl | rfl<;>first | exact Below.refl _ _ | exact below_bytesWorld _ _ _⟩
theorem parseInt_walk (s : ByteArray) (hmax : s.size≤9223372036854775806) (v : Int) (h : Lib.parseIntB 64 s.data.toList=.ok v) (w : World) :
  Calls Tryz.prog 227 #[.string s,.int .i64 10,.int .i64 64] w fun e w'=>e=.returned (.tuple #[.int .i64 v,.nilIface])∧Below w.heap.size w w' :=
 (Tryz.strconv_ParseInt_10_at64_ok s hmax v h w).mono fun e w' ⟨he,hw⟩=>⟨he,by rcases hw with rfl | ⟨t,rfl⟩<;>first | exact Below.refl _ _ | exact below_bytesWorld _ _ _⟩
theorem repeat_walk (s : ByteArray) (c : Nat) (w : World) (hc : c≤1000000) (hlen : s.size≤1000000) :
  Calls Tryz.prog 236 #[.string s,.int .i64 c] w fun e w'=>e=.returned (.string ⟨(Lib.repeatL s.data.toList c).toArray⟩)∧Below w.heap.size w w' :=
 Tryz.strings_Repeat s c w (by omega) (by
  have : s.size * c≤1000000 * 1000000:=Nat.mul_le_mul hlen hc
  omega)
set_option maxRecDepth 100000 in
set_option maxHeartbeats 2000000 in
theorem formatUint_inner (u : Nat) (hu64 : u≤999999999) (w : World) (hB : Bw w) :
  Calls Tryz.prog 250 #[.int .u64 u,.int .i64 10] w fun e w'=>e=.returned (.string (dec u))∧Below w.heap.size w w':=by
 have huI : (u : Int)≤999999999:=by omega
 by_cases hs : u<100
 ·have hsI : (u : Int)<100:=by omega
  go_enter Tryz.func250,Tryz.ntmps250
  go_wp2_with (go_at_call 262; refine (Tryz.internal_strconv_small u hs _).mono ?_; rintro e w' ⟨rfl,rfl⟩)
  go_ret
  exact ⟨rfl,Below.refl _ _⟩
 ·have hsI : ¬ (u : Int)<100:=by omega
  have hu1 : 1≤u:=by omega
  have hnd20 : Lib.nDigits u≤20:=by have:=Lib.numDigits_eq u hu1 (by omega); split at this<;>omega
  have hal : Tryz.prog.arrayLen 320=24:=by simp [Program.arrayLen,Tryz.underlying320]
  have hsl : ∀ W,(Instr.sliceAt 320 (.pointer (some ⟨w.heap.size,0,none⟩)) none (some (.int .i64 (Lib.nDigits u : Int))) none).run Tryz.prog W=.ok (.slice (some ⟨w.heap.size,0,none⟩) (Lib.nDigits u) 24) W:=fun W=>by
   rw [run_sliceAt_array_h W 320 ⟨w.heap.size,0,none⟩ (by simp [Program.arrayLen,Program.elem,Tryz.underlying320]) .i64 (Lib.nDigits u : Int) (by omega) (by rw [hal]; omega)]
   go_simp
  have hH0:=Lib.holds_zero0 w 320 (Lib.nDigits u) (by omega)
  have hfmt:=Tryz.internal_strconv_formatBase10 w.heap.size 0 24 u (Array.replicate (Lib.nDigits u) 0) (w.alloc (.cells Lib.zeros24 320)) hH0 (by rw [Array.size_replicate]; exact Lib.lt_pow_nDigits u) (by omega) (by rw [Array.size_replicate]; omega)
  rw [Array.size_replicate] at hfmt
  have HH0:=Lib.hid hH0
  have HF:=Lib.hid hfmt
  clear hH0 hal hfmt
  go_enter Tryz.func250,Tryz.ntmps250
  go_wp2_with (first
   | (go_at_call 263; refine (Tryz.internal_strconv_numDigits u hu1 (by omega) _ (Lib.tabIs_alloc hB.tab _)).mono ?_; rintro e w' ⟨rfl,rfl⟩))
  go_at_call 264
  refine HF.out.mono ?_
  rintro e w' ⟨rfl,k,v',dk,rfl,hF⟩
  have hcv : (convert 254 9 (.slice (some ⟨w.heap.size,0,none⟩) (Lib.nDigits u) 24)).run Tryz.prog ((putRow (fun (b : UInt8)=>Value.int .u8 (b.toNat : Int)) (w.alloc (.cells Lib.zeros24 320)) w.heap.size 0 dk).drewN k)=.ok (.string ⟨(Lib.decDigits u).toArray⟩) ((putRow (fun (b : UInt8)=>Value.int .u8 (b.toNat : Int)) (w.alloc (.cells Lib.zeros24 320)) w.heap.size 0 dk).drewN k):=by
   have h:=run_convert_bytes_back (P:=Tryz.prog) ((putRow (fun (b : UInt8)=>Value.int .u8 (b.toNat : Int)) (w.alloc (.cells Lib.zeros24 320)) w.heap.size 0 dk).drewN k) 254 9 5 ⟨w.heap.size,0,none⟩ 24 (Lib.decDigits u) Tryz.underlying254 Tryz.underlying5 Tryz.underlying9 (fun j hj=>by
    rw [Lib.row_is_numeral hF j hj,Lib.add_plain,World.cell?_drewN]
    have hc:=cell?_putRow (fun (b : UInt8)=>Value.int .u8 (b.toNat : Int)) _ w.heap.size 0 _ dk HH0.out (by rw [hF.size,Array.size_replicate]) j (by rw [hF.size]; rw [Lib.decDigits_length] at hj; exact hj)
    exact hc)
   rw [Lib.decDigits_length] at h
   exact h
  go_wp2
  go_ret
  obtain ⟨os,eo⟩:=Lib.fin_at w (.cells Lib.zeros24 320) dk k 0
  refine ⟨rfl, ?_⟩
  rw [eo]
  exact below_grow w k os
set_option maxHeartbeats 400000 in
theorem formatUint_walk (u : Nat) (hu64 : u≤999999999) (w : World) (hB : Bw w) :
  Calls Tryz.prog 234 #[.int .u64 u,.int .i64 10] w fun e w'=>e=.returned (.string (dec u))∧Below w.heap.size w w':=by
 go_enter Tryz.func234,Tryz.ntmps234
 go_wp2_with fail
 refine (formatUint_inner u hu64 w hB).mono ?_
 rintro e w1 ⟨rfl,hb⟩
 go_wp2
 go_ret
 exact ⟨rfl,hb⟩
end Go.Proofs.YtopfedbhkfdjkaaGreatDoor


/- natural: Valid: which texts are natural numbers. -/
namespace Go.Proofs.YtopfedbhkfdjkaaGreatDoor
open Go Go.RowKit
theorem toList_length (s : ByteArray) : s.data.toList.length=s.size:=Array.length_toList
def bt (s : ByteArray) (k : Nat) : Nat:=(s.data.toList.getD k 0).toNat
theorem bt_at (s : ByteArray) (k : Nat) : ∀ h : k<s.size,((s[k]'h).toNat : Int)=(bt s k : Int):=fun h=>by
 have h' : k<s.data.toList.length:=by rw [toList_length]; exact h
 unfold bt
 rw [List.getD_eq_getElem?_getD,List.getElem?_eq_getElem h']
 rfl
theorem digs_take_succ {s : ByteArray} {k : Nat} (h : k<s.size) : digs (s.data.toList.take (k+1))=(digs (s.data.toList.take k) && (decide (48≤bt s k) && decide (bt s k≤57))):=by
 have h' : k<s.data.toList.length:=by rw [toList_length]; exact h
 rw [List.take_succ_eq_append_getElem h',digs_append,digs_cons]
 unfold bt
 rw [List.getD_eq_getElem?_getD,List.getElem?_eq_getElem h']
 simp [digs]
theorem isNat_lead {s : ByteArray} (h1 : 1<s.size) (h0 : bt s 0=48) : isNat s.data.toList=false:=by
 have hl : 1<s.data.toList.length:=by rw [toList_length]; exact h1
 unfold isNat
 cases hs : s.data.toList with
 | nil=>rw [hs] at hl; simp at hl
 | cons c r =>
  have hc : c=48:=by
   unfold bt at h0
   rw [hs,List.getD_cons_zero] at h0
   exact UInt8.toNat_inj.1 h0
  subst hc
  rw [hs] at hl
  have : r≠[]:=fun e=>by rw [e] at hl; simp at hl
  simp [this]
theorem isNat_rest {s : ByteArray} (h0 : 0<s.size) (h : ¬ (1<s.size∧bt s 0=48)) : isNat s.data.toList=digs s.data.toList:=by
 have hl : 0<s.data.toList.length:=by rw [toList_length]; exact h0
 unfold isNat
 cases hs : s.data.toList with
 | nil=>rw [hs] at hl; simp at hl
 | cons c r =>
  have hlen : s.size=r.length+1:=by rw [← toList_length,hs]; rfl
  by_cases hr : r=[]
  ·subst hr; simp
  ·have hp:=List.length_pos_iff.2 hr
   have : c≠48:=fun e=>by
    refine h ⟨by omega, ?_⟩
    unfold bt
    rw [hs,List.getD_cons_zero,e]; rfl
   have h2 : 1<r.length+1:=by omega
   simp [hr,this,h2,hp]
theorem digs_false {s : ByteArray} {k : Nat} (h : k<s.size) (hc : bt s k<48∨57<bt s k) : digs s.data.toList=false:=by
 have e:=digs_append (s.data.toList.take (k+1)) (s.data.toList.drop (k+1))
 rw [List.take_append_drop,digs_take_succ h] at e
 rw [e]
 have : (decide (48≤bt s k) && decide (bt s k≤57))=false:=by
  rcases hc with hc | hc
  ·rw [decide_eq_false (by omega),Bool.false_and]
  ·rw [decide_eq_false (show ¬ bt s k≤57 by omega),Bool.and_false]
 rw [this,Bool.and_false,Bool.false_and]
theorem ret_bool {a b : Bool} (h : a=b) : Ending.returned (.bool a)=.returned (.bool b):=by rw [h]
set_option maxHeartbeats 1000000 in
theorem valid_walk (s : ByteArray) (hs : s.size≤9223372036854775806) (w : World) :
  Calls Tryz.prog 156 #[.string s] w fun e w'=>e=.returned (.bool (isNat s.data.toList))∧w'=w:=by
 by_cases h0 : s.size=0
 ·obtain rfl : s=⟨#[]⟩:=ba_ext (by
   have : s.data.toList.length=0:=by rw [toList_length]; exact h0
   rw [List.length_eq_zero_iff.1 this])
  go_enter Tryz.func156,Tryz.ntmps156
  go_wp2
  go_ret
  exact ⟨rfl,rfl⟩
 ·have hne : s.toList.isEmpty=false:=by
   rw [ByteArray.toList_eq]
   cases hl : s.data.toList with
   | nil=>exact absurd (by rw [← toList_length,hl]; rfl) h0
   | cons _ _=>rfl
  have hb0:=bt_at s 0
  by_cases h1 : 1<s.size∧bt s 0=48
  ·have hz : ((bt s 0 : Int) == 48)=true:=by rw [h1.2]; rfl
   have h1I : 1<s.size:=h1.1
   have H:=Lib.hid (isNat_lead h1.1 h1.2)
   clear h1 h0
   go_enter Tryz.func156,Tryz.ntmps156
   go_wp2
   go_ret
   exact ⟨ret_bool H.out.symm,rfl⟩
  ·have hrest:=isNat_rest (by omega) h1
   have HR:=Lib.hid hrest
   clear hrest
   by_cases h2 : 1<s.size
   ·have hz : ((bt s 0 : Int) == 48)=false:=beq_eq_false_iff_ne.2 (by omega)
    have H1:=Lib.hid h1
    clear h1 h0
    go_enter Tryz.func156,Tryz.ntmps156
    go_wp2
    go_loop [18] (fun i=>∃ k : Nat,k≤s.size∧Hid (digs (s.data.toList.take k)=true)∧i=.int .i64 k) (fun i=>s.size - (intOf i).toNat)
    case atStart=>exact ⟨0,Nat.zero_le _,Lib.hid rfl,rfl⟩
    case round =>
     obtain ⟨k,hk,hd,rfl⟩:=hrel
     by_cases hlt : k<s.size
     ·have hbk:=bt_at s k
      by_cases hlo : (bt s k : Int)≤47
      ·have HH:=Lib.hid (digs_false hlt (.inl (show bt s k<48 by omega)))
       go_wp2
       go_ret
       exact ⟨ret_bool (by rw [HR.out,HH.out]),rfl⟩
      ·by_cases hhi : (bt s k : Int)≤57
       ·have HH:=Lib.hid (show digs (s.data.toList.take (k+1))=true by
         rw [digs_take_succ hlt,hd.out,decide_eq_true (show 48≤bt s k by omega),decide_eq_true (show bt s k≤57 by omega)]; rfl)
        go_wp2
        go_round
        case rel=>exact ⟨k+1,by omega,HH,by simp⟩
        case measure=>simp [intOf]; omega
       ·have HH:=Lib.hid (digs_false hlt (.inr (show 57<bt s k by omega)))
        go_wp2
        go_ret
        exact ⟨ret_bool (by rw [HR.out,HH.out]),rfl⟩
     ·obtain rfl : k=s.size:=by omega
      go_wp2
      go_ret
      have HH:=hd.out
      rw [List.take_of_length_le (Nat.le_of_eq (toList_length s))] at HH
      exact ⟨ret_bool (by rw [HR.out,HH]),rfl⟩
   ·have H1:=Lib.hid h1
    have h3 : s.size=1:=by omega
    have hq : ¬ (1 : Int)<(s.size : Int):=by omega
    clear h1 h0
    go_enter Tryz.func156,Tryz.ntmps156
    go_wp2
    go_loop [18] (fun i=>∃ k : Nat,k≤s.size∧Hid (digs (s.data.toList.take k)=true)∧i=.int .i64 k) (fun i=>s.size - (intOf i).toNat)
    case atStart=>exact ⟨0,Nat.zero_le _,Lib.hid rfl,rfl⟩
    case round =>
     obtain ⟨k,hk,hd,rfl⟩:=hrel
     by_cases hlt : k<s.size
     ·have hbk:=bt_at s k
      by_cases hlo : (bt s k : Int)≤47
      ·have HH:=Lib.hid (digs_false hlt (.inl (show bt s k<48 by omega)))
       go_wp2
       go_ret
       exact ⟨ret_bool (by rw [HR.out,HH.out]),rfl⟩
      ·by_cases hhi : (bt s k : Int)≤57
       ·have HH:=Lib.hid (show digs (s.data.toList.take (k+1))=true by
         rw [digs_take_succ hlt,hd.out,decide_eq_true (show 48≤bt s k by omega),decide_eq_true (show bt s k≤57 by omega)]; rfl)
        go_wp2
        go_round
        case rel=>exact ⟨k+1,by omega,HH,by simp⟩
        case measure=>simp [intOf]; omega
       ·have HH:=Lib.hid (digs_false hlt (.inr (show 57<bt s k by omega)))
        go_wp2
        go_ret
        exact ⟨ret_bool (by rw [HR.out,HH.out]),rfl⟩
     ·obtain rfl : k=s.size:=by omega
      go_wp2
      go_ret
      have HH:=hd.out
      rw [List.take_of_length_le (Nat.le_of_eq (toList_length s))] at HH
      exact ⟨ret_bool (by rw [HR.out,HH]),rfl⟩
end Go.Proofs.YtopfedbhkfdjkaaGreatDoor


/- natural: read: the number that a text of digits says. -/
namespace Go.Proofs.YtopfedbhkfdjkaaGreatDoor
open Go Go.RowKit
def Rst (l : List UInt8) (k : Nat) (ws : List Nat) : Prop:=k≤l.length∧Okw ws∧natOf l=val ws+wB ^ ws.length * natOf (l.take k)
theorem rst_start (l : List UInt8) : Rst l l.length []:=⟨Nat.le_refl _,Okw.nil,by simp [val]⟩
theorem rst_word {l : List UInt8} (hd : digs l=true) {k : Nat} (hk : 0<k) (hl : k≤l.length) : Lib.parseUintB 32 ((l.take k).drop (k - 9))=.ok (natOf ((l.take k).drop (k - 9)))∧natOf ((l.take k).drop (k - 9))≤999999999:=by
 have h1:=digs_drop (digs_take hd k) (k - 9)
 have h2 : ((l.take k).drop (k - 9)).length=k - (k - 9):=by rw [List.length_drop,List.length_take,Nat.min_eq_left hl]
 refine ⟨parse_word h1 (fun e=>?_) (by omega) 32 (Nat.le_refl _), ?_⟩
 ·rw [e] at h2; simp only [List.length_nil] at h2; omega
 ·have h3:=natOf_lt h1
  have h4 : 10 ^ ((l.take k).drop (k - 9)).length≤10 ^ 9:=Nat.pow_le_pow_right (by omega) (by omega)
  have h5 : (10 : Nat) ^ 9=999999999+1:=by decide
  exact Nat.le_of_lt_succ (Nat.lt_of_lt_of_le (Nat.lt_of_lt_of_le h3 h4) (Nat.le_of_eq h5))
theorem rst_next {l : List UInt8} (hd : digs l=true) {k : Nat} {ws : List Nat} (hk : 0<k) (h : Rst l k ws) : Rst l (k - 9) (ws++[natOf ((l.take k).drop (k - 9))]):=by
 obtain ⟨hl,ho,hv⟩:=h
 have hw:=(rst_word hd hk hl).2
 refine ⟨by omega,ho.append (Okw.cons (by rw [wB_eq]; omega) Okw.nil), ?_⟩
 have e1 : natOf (l.take k)=natOf ((l.take k).drop (k - 9))+wB * natOf (l.take (k - 9)):=by
  have e:=natOf_append ((l.take k).take (k - 9)) ((l.take k).drop (k - 9))
  rw [List.take_append_drop] at e
  have e2 : (l.take k).take (k - 9)=l.take (k - 9):=by rw [List.take_take,Nat.min_eq_left (by omega)]
  rw [e2] at e
  have h2 : ((l.take k).drop (k - 9)).length=k - (k - 9):=by rw [List.length_drop,List.length_take,Nat.min_eq_left hl]
  rw [h2] at e
  rw [e]
  by_cases h9 : 9≤k
  ·rw [show k - (k - 9)=9 by omega,← wB_pow,Nat.mul_comm wB,Nat.add_comm]
  ·rw [show k - 9=0 by omega,List.take_zero,natOf_nil,Nat.zero_mul,Nat.mul_zero,Nat.zero_add,Nat.add_zero]
 rw [hv,val_append,List.length_append,List.length_singleton,Nat.pow_succ]
 conv=>lhs; rw [e1]
 simp only [val,Nat.mul_zero,Nat.add_zero]
 rw [Nat.mul_add,Nat.add_assoc,Nat.mul_assoc]
theorem rst_end {l : List UInt8} {ws : List Nat} (h : Rst l 0 ws) : natOf l=val ws:=by
 have:=h.2.2
 rw [List.take_zero,natOf_nil,Nat.mul_zero,Nat.add_zero] at this
 exact this
theorem ext_list (t : ByteArray) (a b : Nat) : (t.extract a b).data.toList=(t.data.toList.take b).drop a:=by
 rw [ByteArray.data_extract,Array.toList_extract,List.extract_eq_drop_take']
theorem own_nil (w : World) (base : Nat) : Own w base (.slice none 0 0) []:=⟨rfl,.inl ⟨rfl,rfl⟩⟩
def ReadAt (s : ByteArray) (w : World) (ss vv : Value) (wr : World) : Prop:=∃ (t : ByteArray) (k : Nat) (ws : List Nat),ss=.string t∧t.size=k∧Hid (t.data.toList=s.data.toList.take k)∧ws.length+k≤100000000∧Hid (Rst s.data.toList k ws)∧Own wr w.heap.size vv ws∧Below w.heap.size w wr
def sizeOf' (v : Value) : Nat:=match v with | .string t=>t.size | _=>0
set_option maxHeartbeats 1000000 in
theorem read_walk (s : ByteArray) (hs : s.size≤100000000) (hd : digs s.data.toList=true) (w : World) :
  Calls Tryz.prog 214 #[.string s] w (Ret fun v w'=>NumO w' w.heap.size v (natOf s.data.toList)∧Below w.heap.size w w'):=by
 have HD:=Lib.hid hd
 clear hd
 go_enter Tryz.func214,Tryz.ntmps214
 go_wp2
 go_loopw [0,3] (fun ss vv wr=>ReadAt s w ss vv wr) (fun ss _ _=>sizeOf' ss)
 case atStart =>
  exact ⟨s,s.data.toList.length,[],rfl,(toList_length s).symm,Lib.hid (by rw [List.take_length]),by rw [toList_length,List.length_nil]; omega,Lib.hid (rst_start _),own_nil w _,Below.refl _ _⟩
 case round =>
  obtain ⟨t,k,ws,rfl,hk,ht,hk9,hst,hown,hb⟩:=hrel
  by_cases h0 : k=0
  ·have ho:=hst.out.2.1
   have he:=rst_end (by rw [h0] at hst; exact hst.out)
   rw [h0] at hk
   go_wp2_with fail
   obtain ⟨A,cap,rfl,hc1,hc2⟩:=hown.form
   refine (trim_walk A ws cap wr hown.u32 ho).mono ?_
   rintro e w2 ⟨rfl,rfl⟩
   have hT:=hown.trim ho
   go_wp2
   go_ret
   rw [he]
   exact ⟨_,rfl,hT,hb⟩
  ·have hkp : 0<k:=by omega
   have hk9' : (k : Int)≤100000000:=by omega
   have hK9:=Lib.hid hk9
   have em : max ((k : Int) - 9) 0=((k - 9 : Nat) : Int):=by omega
   have hle : k - 9≤k:=by omega
   have HW:=Lib.hid (show ws.length<10000000000000 by omega)
   clear h0 hk9 hs
   have hlen:=Lib.hid hst.out.1
   have hpw:=Lib.hid (rst_word HD.out hkp hst.out.1)
   have hnx:=Lib.hid (rst_next HD.out hkp hst.out)
   have hxe : (t.extract (k - 9) k).data.toList=(s.data.toList.take k).drop (k - 9):=by rw [ext_list,ht.out,List.take_take,Nat.min_self]
   have hye : (t.extract 0 (k - 9)).data.toList=s.data.toList.take (k - 9):=by rw [ext_list,ht.out,List.take_take,Nat.min_eq_left hle,List.drop_zero]
   have hxs : (t.extract (k - 9) k).size≤9223372036854775806:=by rw [← toList_length,hxe,List.length_drop,List.length_take]; omega
   have hsz : Hid ((t.extract 0 (k - 9)).size=k - 9):=Lib.hid (by rw [← toList_length,hye,List.length_take,Nat.min_eq_left (by have:=hlen.out; omega)])
   generalize hy : natOf ((s.data.toList.take k).drop (k - 9))=y at *
   generalize hat : k - 9=at' at *
   go_wp2_with fail
   refine (parseUint_walk _ hxs y (by rw [hxe]; exact hpw.out.1) wr).mono ?_
   rintro e w2 ⟨rfl,g2⟩
   have hown2:=hown.below g2
   have hb2:=below_then hb hb.size g2
   have hyw : IntKind.u32.wrap (y : Int)=y:=by have:=hpw.out.2; rw [IntKind.wrap_u32]; omega
   clear hxs hk9'
   go_wp2_with (at_builtin; refine append_word (w0:=w) w.heap.size rfl (.tmp 21) (.tmp 24) 258 rfl Tryz.underlying258 info_u32 _ ws y _ (by first | rfl | rw [hyw]) rfl rfl hown2 hb2 hb2.size HW.out ?_; intro v1 w1 hown1 hb1 hg1)
   go_round
   case rel =>
    refine ⟨t.extract 0 at',at',ws++[y],rfl,hsz.out,Lib.hid hye, ?_,hnx,hown1,hb1⟩
    have:=hK9.out
    rw [List.length_append,List.length_singleton]
    omega
   case measure =>
    show (t.extract 0 at').size<t.size
    rw [hsz.out,hk]
    omega
end Go.Proofs.YtopfedbhkfdjkaaGreatDoor


/- natural: both: two texts read. -/
namespace Go.Proofs.YtopfedbhkfdjkaaGreatDoor
open Go Go.RowKit
def Ret3 (z : Value) (P : Value→Value→World→Prop) (e : Ending) (w' : World) : Prop:=∃ v1 v2,e=.returned (.tuple #[v1,v2,z])∧P v1 v2 w'
theorem dec_isNat (n : Nat) : isNat (dec n).data.toList=true:=by rw [dec_toList]; exact isNat_decDigits n
theorem dec_natOf' (n : Nat) : natOf (dec n).data.toList=n:=by rw [dec_toList]; exact natOf_decDigits n
theorem valid_dec (n : Nat) (hs : (dec n).size≤100000000) (w : World) :
  Calls Tryz.prog 156 #[.string (dec n)] w fun e w'=>e=.returned (.bool true)∧w'=w:=by
 have:=valid_walk (dec n) (by omega) w
 rw [dec_isNat] at this
 exact this
theorem read_dec (n : Nat) (hs : (dec n).size≤100000000) (w : World) :
  Calls Tryz.prog 214 #[.string (dec n)] w (Ret fun v w'=>NumO w' w.heap.size v n∧Below w.heap.size w w'):=by
 have:=read_walk (dec n) hs (isNat_digs (dec_isNat n)) w
 rw [dec_natOf'] at this
 exact this
set_option maxHeartbeats 400000 in
theorem both_walk (n m : Nat) (hn : (dec n).size≤100000000) (hm : (dec m).size≤100000000) (w : World) :
  Calls Tryz.prog 197 #[.string (dec n),.string (dec m)] w (Ret3 (.int .i64 0) fun v1 v2 w'=>NumO w' w.heap.size v1 n∧NumO w' w.heap.size v2 m∧Below w.heap.size w w'):=by
 have HN:=Lib.hid hn
 have HM:=Lib.hid hm
 clear hn hm
 generalize hx : dec n=x at *
 generalize hy : dec m=y at *
 go_enter Tryz.func197,Tryz.ntmps197
 go_wp2_with (first
  | (go_at_call_of 156 (Value.string x); rw [← hx]; refine (valid_dec n (by rw [hx]; exact HN.out) _).mono ?_; rintro e w9 ⟨rfl,rfl⟩; rw [hx])
  | (go_at_call_of 156 (Value.string y); rw [← hy]; refine (valid_dec m (by rw [hy]; exact HM.out) _).mono ?_; rintro e w9 ⟨rfl,rfl⟩; rw [hy])
  | fail)
 have R1:=read_dec n (by rw [hx]; exact HN.out) w9
 rw [hx] at R1
 refine R1.mono ?_
 rintro e w1 ⟨v1,rfl,g1,g2⟩
 go_wp2_with fail
 have R2:=read_dec m (by rw [hy]; exact HM.out) w1
 rw [hy] at R2
 refine R2.mono ?_
 rintro e w2 ⟨v2,rfl,g3,g4⟩
 go_wp2
 go_ret3
 exact ⟨_,_,rfl,g1.below g4,g3.base g2.size,below_then g2 g2.size g4⟩
end Go.Proofs.YtopfedbhkfdjkaaGreatDoor


/- Texts of integers and of rational numbers: which texts are numbers, their values. Plain lemmas: no program. -/
namespace Go.Proofs.YtopfedbhkfdjkaaGreatDoor
open Go.Lib
def itx (z : Int) : ByteArray:=⟨(itoa z).toArray⟩
def isIntL (l : List UInt8) : Bool:=isNat (trimPrefix l [45]) && !(hasPrefix l [45] && trimPrefix l [45] == [48])
def intOfL (l : List UInt8) : Int:=if hasPrefix l [45] then -(natOf (trimPrefix l [45]) : Int) else natOf (trimPrefix l [45])
theorem hasPre_cons (c : UInt8) (l : List UInt8) : hasPrefix (c :: l) [45]=(45 == c):=by simp [hasPrefix,List.isPrefixOf]
theorem trimPre_minus (l : List UInt8) : trimPrefix (45 :: l) [45]=l:=by simp [trimPrefix,hasPre_cons]
theorem trimPre_of {l : List UInt8} (h : hasPrefix l [45]=false) : trimPrefix l [45]=l:=by simp [trimPrefix,h]
theorem of_hasPre {l : List UInt8} (h : hasPrefix l [45]=true) : l=45 :: trimPrefix l [45]:=by
 cases l with
 | nil=>cases h
 | cons c l =>
  rw [hasPre_cons] at h
  have : c=45:=(beq_iff_eq.1 h).symm
  subst this
  rw [trimPre_minus]
theorem digs_mem {l : List UInt8} (h : digs l=true) {c : UInt8} (hc : c ∈ l) : 48≤c.toNat∧c.toNat≤57:=by
 unfold digs at h
 have:=List.all_eq_true.1 h c hc
 simpa using this
theorem hasPre_digs {l : List UInt8} (h : digs l=true) : hasPrefix l [45]=false:=by
 cases l with
 | nil=>rfl
 | cons c l =>
  rw [hasPre_cons]
  have:=digs_mem h (List.mem_cons_self)
  refine beq_eq_false_iff_ne.2 fun e=>?_
  rw [← e] at this
  exact absurd this.1 (by decide)
theorem hasPre_dec (n : Nat) : hasPrefix (decDigits n) [45]=false:=hasPre_digs (digs_decDigits n)
theorem itoa_neg {z : Int} (h : z<0) : itoa z=45 :: decDigits z.natAbs:=by rw [itoa,if_pos h]
theorem itoa_nonneg {z : Int} (h : 0≤z) : itoa z=decDigits z.natAbs:=by
 rw [itoa,if_neg (by omega)]
 rw [show z.toNat=z.natAbs by omega]
theorem hasPre_itoa (z : Int) : hasPrefix (itoa z) [45]=decide (z<0):=by
 by_cases h : z<0
 ·rw [itoa_neg h,hasPre_cons,decide_eq_true h]; rfl
 ·rw [itoa_nonneg (by omega),hasPre_dec,decide_eq_false h]
theorem trimPre_itoa (z : Int) : trimPrefix (itoa z) [45]=decDigits z.natAbs:=by
 by_cases h : z<0
 ·rw [itoa_neg h,trimPre_minus]
 ·rw [itoa_nonneg (by omega),trimPre_of (hasPre_dec _)]
theorem decDigits_eq_zero (n : Nat) : (decDigits n == [48])=decide (n=0):=by
 by_cases h : n=0
 ·subst h
  rw [decDigits_small (by omega)]; rfl
 ·rw [decide_eq_false h]
  refine beq_eq_false_iff_ne.2 fun e=>h ?_
  have:=congrArg natOf e
  rw [natOf_decDigits] at this
  rw [this]; rfl
theorem isIntL_itoa (z : Int) : isIntL (itoa z)=true:=by
 unfold isIntL
 rw [trimPre_itoa,hasPre_itoa,isNat_decDigits,decDigits_eq_zero]
 by_cases h : z<0
 ·have : ¬ z.natAbs=0:=by omega
  simp [h,this]
 ·simp [h]
theorem intOfL_itoa (z : Int) : intOfL (itoa z)=z:=by
 unfold intOfL
 rw [trimPre_itoa,hasPre_itoa,natOf_decDigits]
 by_cases h : z<0
 ·simp [h]; omega
 ·simp [h]; omega
theorem itoa_intOfL {l : List UInt8} (h : isIntL l=true) : itoa (intOfL l)=l:=by
 unfold isIntL at h
 rw [Bool.and_eq_true] at h
 obtain ⟨h1,h2⟩:=h
 have hd:=decDigits_natOf h1
 unfold intOfL
 cases hp : hasPrefix l [45] with
 | true =>
  have h0 : natOf (trimPrefix l [45])≠0:=fun e=>by
   rw [hp,← hd,e] at h2
   simp [decDigits_small] at h2
  rw [if_pos rfl,itoa_neg (by omega),Int.natAbs_neg,Int.natAbs_natCast,hd]
  exact (of_hasPre hp).symm
 | false =>
  rw [if_neg (by decide),itoa_nonneg (by omega),Int.natAbs_natCast,hd,trimPre_of hp]
theorem itx_toList (z : Int) : (itx z).data.toList=itoa z:=by simp [itx]
theorem itoa_inj {a b : Int} (h : itoa a=itoa b) : a=b:=by rw [← intOfL_itoa a,h,intOfL_itoa]
theorem itx_inj {a b : Int} (h : itx a=itx b) : a=b:=itoa_inj (by rw [← itx_toList,h,itx_toList])
theorem itx_nat (n : Nat) : itx (n : Int)=dec n:=ba_ext (by rw [itx_toList,dec_toList,itoa_nonneg (by omega),Int.natAbs_natCast])
theorem itx_dec (z : Int) : itx z=if z<0 then ⟨#[45]++(dec z.natAbs).data⟩ else dec z.natAbs:=by
 refine ba_ext ?_
 rw [itx_toList]
 split
 ·rename_i h
  rw [itoa_neg h]
  simp [dec]
 ·rw [itoa_nonneg (by omega),dec_toList]
/- Where the first slash stands. -/
theorem index_no {l : List UInt8} (h : (47 : UInt8) ∉ l) : index l [47] = -1:=by
 induction l with
 | nil=>rfl
 | cons c l ih =>
  rw [List.mem_cons,not_or] at h
  have hc : ((47 : UInt8) == c)=false:=beq_eq_false_iff_ne.2 h.1
  unfold index
  rw [ih h.2]
  simp [List.isPrefixOf,hc]
theorem index_yes {p : List UInt8} (r : List UInt8) (h : (47 : UInt8) ∉ p) : index (p++47 :: r) [47]=p.length:=by
 induction p with
 | nil=>simp [index,List.isPrefixOf]
 | cons c l ih =>
  rw [List.mem_cons,not_or] at h
  have hc : ((47 : UInt8) == c)=false:=beq_eq_false_iff_ne.2 h.1
  have hi:=ih h.2
  rw [List.cons_append,index,hi]
  have hne : ((l.length : Int) == -1)=false:=beq_eq_false_iff_ne.2 (by omega)
  simp [List.isPrefixOf,hc,hne]
theorem cut_no {l : List UInt8} (h : (47 : UInt8) ∉ l) : cut l [47]=(l,[],false):=by
 unfold cut
 rw [index_no h,if_neg (by omega)]
theorem cut_yes {p : List UInt8} (r : List UInt8) (h : (47 : UInt8) ∉ p) : cut (p++47 :: r) [47]=(p,r,true):=by
 unfold cut
 rw [index_yes r h,if_pos (by omega),Int.toNat_natCast]
 simp
theorem cut_cases (l : List UInt8) : ((47 : UInt8) ∉ l∧cut l [47]=(l,[],false))∨∃ p r,(47 : UInt8) ∉ p∧l=p++47 :: r∧cut l [47]=(p,r,true):=by
 by_cases h : (47 : UInt8) ∈ l
 ·obtain ⟨p,r,e,hp⟩:=List.eq_append_cons_of_mem h
  exact .inr ⟨p,r,hp,e,by rw [e,cut_yes r hp]⟩
 ·exact .inl ⟨h,cut_no h⟩
theorem noslash_digs {l : List UInt8} (h : digs l=true) : (47 : UInt8) ∉ l:=fun hm=>absurd (digs_mem h hm).1 (by decide)
theorem noslash_itoa (z : Int) : (47 : UInt8) ∉ itoa z:=by
 by_cases h : z<0
 ·rw [itoa_neg h,List.mem_cons,not_or]
  exact ⟨by decide,noslash_digs (digs_decDigits _)⟩
 ·rw [itoa_nonneg (by omega)]
  exact noslash_digs (digs_decDigits _)
def rtoa (q : Rat) : List UInt8:=if q.den=1 then itoa q.num else itoa q.num++47 :: decDigits q.den
def rtx (q : Rat) : ByteArray:=⟨(rtoa q).toArray⟩
def isFracL (p d : List UInt8) : Bool:=isIntL p && (p != [48]) && isNat d && (d != [48]) && (d != [49]) && decide (Nat.gcd (intOfL p).natAbs (natOf d)=1)
def isRatL (l : List UInt8) : Bool:=if (cut l [47]).2.2 then isFracL (cut l [47]).1 (cut l [47]).2.1 else isIntL (cut l [47]).1
def ratOfL (l : List UInt8) : Rat:=if (cut l [47]).2.2 then mkRat (intOfL (cut l [47]).1) (natOf (cut l [47]).2.1) else ((intOfL (cut l [47]).1 : Int) : Rat)
theorem rtx_toList (q : Rat) : (rtx q).data.toList=rtoa q:=by simp [rtx]
theorem cut_rtoa (q : Rat) : cut (rtoa q) [47]=if q.den=1 then (itoa q.num,[],false) else (itoa q.num,decDigits q.den,true):=by
 unfold rtoa
 split
 ·exact cut_no (noslash_itoa _)
 ·exact cut_yes _ (noslash_itoa _)
theorem decDigits_eq_one (n : Nat) : (decDigits n == [49])=decide (n=1):=by
 by_cases h : n=1
 ·subst h
  rw [decDigits_small (by omega)]; rfl
 ·rw [decide_eq_false h]
  refine beq_eq_false_iff_ne.2 fun e=>h ?_
  have:=congrArg natOf e
  rw [natOf_decDigits] at this
  rw [this]; rfl
theorem itoa_eq_zero (z : Int) : (itoa z == [48])=decide (z=0):=by
 by_cases h : z<0
 ·rw [itoa_neg h,decide_eq_false (by omega)]
  exact beq_eq_false_iff_ne.2 fun e=>absurd (List.cons.inj e).1 (by decide)
 ·rw [itoa_nonneg (by omega),decDigits_eq_zero]
  exact decide_eq_decide.2 (by omega)
theorem rat_num_ne {q : Rat} (h : q.den≠1) : q.num≠0:=fun e=>by
 have:=q.reduced
 rw [e] at this
 simp [Nat.Coprime] at this
 exact h this
theorem isRatL_rtoa (q : Rat) : isRatL (rtoa q)=true:=by
 unfold isRatL
 rw [cut_rtoa]
 by_cases h : q.den=1
 ·rw [if_pos h]
  simp [isIntL_itoa]
 ·have h0:=q.den_nz
  rw [if_neg h]
  have h1:=rat_num_ne h
  have h2:=q.reduced
  unfold Nat.Coprime at h2
  simp only [isFracL,isIntL_itoa,isNat_decDigits,bne,decDigits_eq_zero,decDigits_eq_one,itoa_eq_zero,intOfL_itoa,natOf_decDigits,h,h0,h1,h2]
  rfl
theorem ratOfL_rtoa (q : Rat) : ratOfL (rtoa q)=q:=by
 unfold ratOfL
 rw [cut_rtoa]
 by_cases h : q.den=1
 ·rw [if_pos h]
  simp only [intOfL_itoa]
  refine Rat.ext ?_ ?_
  ·simp
  ·simp [h]
 ·rw [if_neg h]
  simp only [intOfL_itoa,natOf_decDigits]
  simp only [if_true]
  exact Rat.mkRat_self q
theorem rtoa_ratOfL {l : List UInt8} (h : isRatL l=true) : rtoa (ratOfL l)=l:=by
 unfold isRatL at h
 unfold ratOfL
 rcases cut_cases l with ⟨h1,e⟩ | ⟨p,r,hp,hl,e⟩
 ·rw [e] at h ⊢
  simp only [Bool.false_eq_true,if_false] at h ⊢
  simp [rtoa,itoa_intOfL h]
 ·rw [e] at h ⊢
  simp only [if_true] at h ⊢
  simp only [isFracL,Bool.and_eq_true,decide_eq_true_eq,bne_iff_ne,ne_eq] at h
  obtain ⟨⟨⟨⟨⟨g1,g2⟩,g3⟩,g4⟩,g5⟩,g6⟩:=h
  have hd0 : natOf r≠0:=fun e0=>g4 (by rw [← decDigits_natOf g3,e0,decDigits_small (by omega)]; rfl)
  have hd1 : natOf r≠1:=fun e0=>g5 (by rw [← decDigits_natOf g3,e0,decDigits_small (by omega)]; rfl)
  have hn : (mkRat (intOfL p) (natOf r)).num=intOfL p:=by rw [Rat.num_mkRat]; simp [g6,hd0,Nat.gcd_comm (natOf r)]
  have hdn : (mkRat (intOfL p) (natOf r)).den=natOf r:=by rw [Rat.den_mkRat]; simp [g6,hd0,Nat.gcd_comm (natOf r)]
  rw [rtoa,hdn,if_neg hd1,hn,itoa_intOfL g1,decDigits_natOf g3,hl]
theorem rtx_ratOfL {s : ByteArray} (h : isRatL s.data.toList=true) : s=rtx (ratOfL s.data.toList):=ba_ext (by rw [rtx_toList,rtoa_ratOfL h])
theorem rtoa_inj {a b : Rat} (h : rtoa a=rtoa b) : a=b:=by rw [← ratOfL_rtoa a,h,ratOfL_rtoa]
theorem rtx_inj {a b : Rat} (h : rtx a=rtx b) : a=b:=rtoa_inj (by rw [← rtx_toList,h,rtx_toList])
theorem rtx_eq {a b : Rat} : rtx a=rtx b↔a=b:=⟨rtx_inj,fun e=>by rw [e]⟩
def isRat (s : ByteArray) : Bool:=isRatL s.data.toList
theorem isRat_rtx (q : Rat) : isRat (rtx q)=true:=by rw [isRat,rtx_toList,isRatL_rtoa]
theorem isRat_iff {s : ByteArray} : isRat s=true↔∃ q,s=rtx q:=⟨fun h=>⟨_,rtx_ratOfL h⟩,fun ⟨q,e⟩=>by rw [e,isRat_rtx]⟩
def isIntB (s : ByteArray) : Bool:=isIntL s.data.toList
theorem itx_eq_zero (z : Int) : itx z=⟨#[48]⟩↔z=0:=by
 have:=itoa_eq_zero z
 rw [← itx_toList] at this
 constructor
 ·intro e
  rw [e] at this
  have h2 : ((#[48] : Array UInt8).toList == [48])=true:=rfl
  rw [h2] at this
  exact of_decide_eq_true this.symm
 ·rintro rfl
  rw [show itx 0=dec 0 from itx_nat 0,dec_zero]
end Go.Proofs.YtopfedbhkfdjkaaGreatDoor


/- slices.Backward over a number's words: its contract for whatever loop body keeps what lay below. -/
namespace Go.Proofs.YtopfedbhkfdjkaaGreatDoor
open Go Go.RowKit Go.Shelf
attribute [local go_sem] Oper.semAt_some
def downto (len k : Nat) : List Nat:=(List.range k).map fun j=>len - 1 - j
theorem downto_succ (len k : Nat) : downto len (k+1)=downto len k++[len - 1 - k]:=by simp [downto,List.range_succ]
theorem downto_length (len k : Nat) : (downto len k).length=k:=by simp [downto]
def Kb (n₀ Bs : Nat) (W W' : World) : Prop:=Below n₀ W W'∧∀ c,W.heap[Bs]?=some (.cells c 258 (0,0))→W'.heap[Bs]?=some (.cells c 258 (0,0))
theorem Kb.refl (n₀ Bs : Nat) (W : World) : Kb n₀ Bs W W:=⟨Below.refl _ _,fun _ h=>h⟩
theorem Kb.trans {n₀ Bs : Nat} {A B C : World} (h : Kb n₀ Bs A B) (k : Kb n₀ Bs B C) : Kb n₀ Bs A C:=⟨h.1.trans k.1,fun o e=>k.2 o (h.2 o e)⟩
theorem Kb.box {n₀ Bs : Nat} {A B : World} (h : Kb n₀ Bs A B) {v : Value} (hc : A.heap[Bs]?=some (.cells #[v] 258 (0,0))) : B.cell? ⟨Bs,0,none⟩=some v:=by
 simp [World.cell?,h.2 _ hc]
theorem Kb.put {n₀ Bs : Nat} {w : World} (hn : n₀≤w.heap.size) (hBs : Bs<w.heap.size) (W : World) (l : Nat) (o o' : Obj) (hl : w.heap.size≤l) (h : W.heap[l]?=some o) (h1 : o.isCells=false) (h2 : o.isWalk=false) : Kb n₀ Bs W (W.putObj l o') :=
 ⟨belowK_b hn W l o o' hl h h1 h2,fun x hx=>by
  unfold World.putObj
  rw [Array.getElem?_setIfInBounds]
  rw [if_neg (by omega)]
  exact hx⟩
set_option maxRecDepth 100000 in
set_option maxHeartbeats 2000000 in
theorem back1_in (F : Fence) (n : Nat) (h7 : F.fn 249) (hro : F.round=none) (hn : 1≤n) (l Bs n₀ b off len cap : Nat) (zs : List Nat) (hreach : len≤1000000000) (hb : b<n₀) (J Jx : List Nat→World→Prop)
  (hY : ∀ (pre : List Nat) (x : Nat) (W : World),J pre W→pre.length<len→YieldAt F (n - 1) Tryz.prog l #[.int .i64 (x : Int),.int .u32 (wd zs x : Int)] W fun e W' =>
   (e=.returned (.bool true)∧J (pre++[x]) W'∧Kb n₀ Bs W W')∨(e=.returned (.bool false)∧Jx (pre++[x]) W'))
  (W : World) (hBs : W.heap[Bs]?=some (.cells #[.slice (some ⟨b,off,none⟩) len cap] 258 (0,0))) (hc : ∀ j,j<len→W.cell? ⟨b,off+j,none⟩=some (.int .u32 (wd zs j : Int))) (h0 : J [] W) :
  CallsIn F n Tryz.prog 249 #[.func (.yield l) #[] #[],.pointer (some ⟨Bs,0,none⟩)] W fun e W'=>(∃ v,e=.returned v) ∧
   ((∃ ys,ys=downto len len∧J ys W')∨(∃ pre,(∃ k,k≤len∧pre=downto len k)∧Jx pre W')):=by
 refine callsIn_of_wp Tryz.func249 rfl h7 ?_ hro
 simp only [Tryz.ntmps249,List.size_toArray,List.length_cons,List.length_nil,Nat.reduceAdd,Nat.reduceSub,Array.replicate_succ,Array.replicate_zero,List.push_toArray,List.append_toArray,List.nil_append,List.cons_append]
 have hBc:=(Kb.refl n₀ Bs W).box hBs
 gi_wp2
 gi_loopw [3] (fun i wr=>∃ k r : Nat,k+r=len∧i=.int .i64 ((r : Int) - 1)∧J (downto len k) wr∧Kb n₀ Bs W wr)
  (fun i _=>(intOf i+1).toNat)
 case atStart=>exact ⟨0,len,by omega,rfl,h0,Kb.refl _ _ _⟩
 case round =>
  obtain ⟨k,r,hk,rfl,hJs,hnx⟩:=hrel
  have hBs':=hnx.box hBs
  by_cases hlt : r=0
  ·subst hlt
   obtain rfl : k=len:=by omega
   gi_wp2
   go_end0
   exact ⟨⟨_,rfl⟩,.inl ⟨_,rfl,hJs⟩⟩
  ·obtain ⟨r1,rfl⟩ : ∃ r1,r=r1+1:=⟨r - 1,by omega⟩
   have hcx : wr.cell? ⟨b,off+r1,none⟩=some (.int .u32 (wd zs r1 : Int)):=(hnx.1.cell (p:=⟨b,off+r1,none⟩) hb).trans (hc r1 (by omega))
   obtain ⟨fn,tmps,assign,body,hy,hR⟩:=hY _ r1 wr hJs (by rw [downto_length]; omega)
   have hri : ((r1+1 : Nat) : Int) - 1=(r1 : Int):=by omega
   have hrl : r1<len:=by omega
   have hre : len - 1 - k=r1:=by omega
   rw [hri] at *
   gi_wp2
   refine hR.mono ?_
   rintro e W3 (⟨rfl,hJ3,hk3⟩ | ⟨rfl,hJx3⟩)
   ·gi_wp2
    go_roundw
    case rel=>exact ⟨k+1,r1,by omega,rfl,by rw [downto_succ,hre]; exact hJ3,hnx.trans hk3⟩
    case measure=>simp [intOf]
   ·gi_wp2
    refine bodyPost_ret (results_none rfl _ _ _) rfl ?_
    exact ⟨⟨_,rfl⟩,.inr ⟨_,⟨k+1,by omega,by rw [downto_succ,hre]⟩,hJx3⟩⟩
set_option maxHeartbeats 1000000 in
theorem back_in (F : Fence) (n : Nat) (h5 : F.fn 233) (hro : F.round=none) (a : Option Addr) (len cap : Nat) (w : World) :
  CallsIn F n Tryz.prog 233 #[.slice a len cap] w fun e w'=>e=.returned (.func (.func 249) #[] #[.pointer (some ⟨w.heap.size,0,none⟩)])∧w'=w.alloc (.cells #[.slice a len cap] 258):=by
 refine callsIn_of_wp Tryz.func233 rfl h5 ?_ hro
 simp only [Tryz.ntmps233,List.size_toArray,List.length_cons,List.length_nil,Nat.reduceAdd,Nat.reduceSub,Array.replicate_succ,Array.replicate_zero,List.push_toArray,List.append_toArray,List.nil_append,List.cons_append]
 gi_wp2
 go_ret
 exact ⟨rfl,rfl⟩
theorem back_stops (F : Fence) (n : Nat) (h7 : F.fn 249) (hro : F.round=none) (hn : 1≤n) (Bs n₀ b off cap : Nat) (zs : List Nat) (hreach : zs.length≤1000000000) (w : World) (hb : b<n₀) (hBl : Bs<w.heap.size) (hn₀ : n₀≤w.heap.size)
  (hc : w.heap[Bs]?=some (.cells #[.slice (some ⟨b,off,none⟩) zs.length cap] 258 (0,0))) (hcs : ∀ j,j<zs.length→w.cell? ⟨b,off+j,none⟩=some (.int .u32 (wd zs j : Int))) :
  SeqStopsK F n Tryz.prog 249 #[.pointer (some ⟨Bs,0,none⟩)] (fun x : Nat=>#[Value.int .i64 (x : Int),Value.int .u32 (wd zs x : Int)]) (Kb n₀ Bs) (fun ys=>ys=downto zs.length zs.length)
   (fun pre=>∃ k,k≤zs.length∧pre=downto zs.length k) zs.length w:=fun l J Jx W hW _ _ hY h0=>by
 have hW':=hW.mono hn₀
 exact back1_in F n h7 hro hn l Bs n₀ b off zs.length cap zs hreach hb J Jx hY W ((hW.block Bs hBl).trans hc) (fun j hj=>(hW'.cell (p:=⟨b,off+j,none⟩) hb).trans (hcs j hj)) h0
end Go.Proofs.YtopfedbhkfdjkaaGreatDoor


/- The text of a number, as its words give it: plain law for natural.text. -/
namespace Go.Proofs.YtopfedbhkfdjkaaGreatDoor
open Go Go.RowKit Go.Lib
def chunk (l : List Nat) (j : Nat) : List UInt8:=if j+1<l.length then padk 9 (wd l j) else decDigits (wd l j)
def txs (l : List Nat) (pre : List Nat) : List UInt8:=pre.flatMap (chunk l)
theorem txs_snoc (l pre : List Nat) (x : Nat) : txs l (pre++[x])=txs l pre++chunk l x:=by simp [txs]
theorem drop_step {l : List Nat} {r : Nat} (h : r<l.length) : l.drop r=wd l r :: l.drop (r+1):=by
 rw [List.drop_eq_getElem_cons h]
 congr 1
 unfold wd
 rw [List.getD_eq_getElem?_getD,List.getElem?_eq_getElem h]
 rfl
theorem txs_down {l : List Nat} (ho : Okw l) (hz : 0<l.length) (ht : wd l (l.length - 1)≠0) : ∀ k,k<l.length →
  txs l (downto l.length (k+1))=decDigits (val (l.drop (l.length - 1 - k)))∧val (l.drop (l.length - 1 - k))≠0
 | 0,_=>by
  have e : l.drop (l.length - 1 - 0)=[wd l (l.length - 1)]:=by
   rw [Nat.sub_zero,drop_step (by omega),show l.length - 1+1=l.length by omega,List.drop_length]
  rw [e]
  have e2 : val [wd l (l.length - 1)]=wd l (l.length - 1):=by simp [val]
  rw [e2,downto_succ,txs_snoc]
  refine ⟨?_,ht⟩
  have : chunk l (l.length - 1 - 0)=decDigits (wd l (l.length - 1)):=by
   unfold chunk
   rw [if_neg (by omega),Nat.sub_zero]
  rw [this]
  simp [downto,txs]
 | k+1,h=>by
  obtain ⟨h1,h2⟩:=txs_down ho hz ht k (by omega)
  have hr : l.length - 1 - (k+1)<l.length:=by omega
  have hs : l.length - 1 - (k+1)+1=l.length - 1 - k:=by omega
  have e:=drop_step hr
  rw [hs] at e
  rw [e,downto_succ,txs_snoc,h1]
  have hc : chunk l (l.length - 1 - (k+1))=padk 9 (wd l (l.length - 1 - (k+1))):=by
   unfold chunk
   rw [if_pos (by omega)]
  rw [hc]
  generalize l.drop (l.length - 1 - k)=d at *
  have hw:=ho.wd (l.length - 1 - (k+1))
  generalize wd l (l.length - 1 - (k+1))=x at *
  have ev : val (x :: d)=val d * 10 ^ 9+x:=by
   rw [← wB_pow]
   show x+wB * val d=_
   rw [Nat.mul_comm,Nat.add_comm]
  rw [ev,decDigits_pad 9 (val d) x h2 (by rw [← wB_pow]; exact hw)]
  refine ⟨rfl, ?_⟩
  have : 0<val d * 10 ^ 9:=Nat.mul_pos (Nat.pos_of_ne_zero h2) (by decide)
  omega
theorem txs_all {l : List Nat} (ho : Okw l) (hz : 0<l.length) (ht : wd l (l.length - 1)≠0) : txs l (downto l.length l.length)=decDigits (val l):=by
 have:=(txs_down ho hz ht (l.length - 1) (by omega)).1
 rw [show l.length - 1+1=l.length by omega,Nat.sub_self,List.drop_zero] at this
 exact this
end Go.Proofs.YtopfedbhkfdjkaaGreatDoor


/- natural.text: the decimal text of a number. -/
namespace Go.Proofs.YtopfedbhkfdjkaaGreatDoor
open Go Go.RowKit Go.Shelf
attribute [local go_sem] Oper.semAt_some
theorem writeString_kept (B b : Nat) (bs : List Value) (s : ByteArray) (w : World) (h : Lib.IsBuilderF 291 5 B b bs w) (hlen : bs.length+s.size≤140737488355328) (hBw : B≤w.heap.size) :
  Calls Tryz.prog 235 #[.pointer (some ⟨b,0,none⟩),.string s] w fun e w'=>e=.returned (.tuple #[.int .i64 s.size,.nilIface])∧(Lib.IsBuilderF 291 5 B b (bs++Lib.strCells s) w'∧Below B w w'∧Lib.OthersKept 5 (some b) w w') :=
 (Any.Builder_WriteString_kc { Tryz.lays105 with } Tryz.Builder_Extra_105 B b bs s w h hlen hBw).mono fun e w' ⟨he,⟨h1,h2,h3⟩,_⟩=>⟨he,.inr h1,h2,h3⟩
theorem isBuilderF_grown {T e : TypeId} {B b : Nat} {bs : List Value} {W W' : World} {row : Option Nat} (h : Lib.IsBuilderF T e B b bs W) (hg : W.grownBy W' row) (hr : ∀ r,row=some r→∃ o : Obj,W.heap[r]?=some o∧o.isCells=false) : Lib.IsBuilderF T e B b bs W':=by
 have key : ∀ p,Lib.BuilderAtF T e B b p bs W→Lib.BuilderAtF T e B b p bs W':=by
  rintro p ⟨h1,v,h2,h3,h4⟩
  have hne : ∀ k c t f,W.heap[k]?=some (.cells c t f)→some k≠row:=fun k c t f hk e=>by
   obtain ⟨o,ho,hc⟩:=hr k e.symm
   rw [hk] at ho
   cases ho
   cases hc
  refine ⟨h1,v, ?_,h3.kept hg ?_,h4⟩
  ·rw [hg.block b (Array.getElem?_eq_some_iff.1 h2).1 (hne _ _ _ _ h2)]
   exact h2
  ·rcases h3.2 with ⟨rfl,_⟩ | ⟨g,cap,cur,fz,rfl,_,hgg,_⟩
   ·exact .inl rfl
   ·exact .inr (hne _ _ _ _ hgg)
 exact h.elim (fun x=>.inl (key _ x)) (fun x=>.inr (key _ x))
def Stp (b : Nat) (W W' : World) : Prop:=Below b W W'∧∀ k o,b<k→W.heap[k]?=some o→(∀ c fz,o≠.cells c 5 fz)→W'.heap[k]?=some o
theorem Stp.trans {b : Nat} {A B C : World} (h : Stp b A B) (k : Stp b B C) : Stp b A C:=⟨h.1.trans k.1,fun i o hi ho hc=>k.2 i o hi (h.2 i o hi ho hc) hc⟩
theorem Stp.call {b : Nat} {A B : World} (h : Below A.heap.size A B) (hb : b≤A.heap.size) : Stp b A B:=⟨h.mono hb,fun i o _ ho _=>(h.block i (Array.getElem?_eq_some_iff.1 ho).1).trans ho⟩
theorem Stp.write {b : Nat} {A B : World} (h : Below b A B) (k : Lib.OthersKept 5 (some b) A B) : Stp b A B:=⟨h,fun i o hi ho hc=>k i o ho (by simp; omega) hc⟩
theorem Stp.keeps {b D : Nat} {A B : World} (h : Stp b A B) (hD : b<D) : KeepsFrom D A B:=⟨h.1.size,fun k o hk ho hc=>h.2 k o (by omega) ho (fun c fz e=>by rw [e] at hc; cases hc)⟩
theorem Stp.kb {b : Nat} {A B : World} (h : Stp b A B) : Kb b (b+1) A B:=⟨h.1,fun c hc=>h.2 _ _ (by omega) hc (fun c' fz e=>by injection e with e1 e2 e3; exact absurd e2 (by decide))⟩
theorem dec_len9 {x : Nat} (h : x<wB) : (dec x).size≤9:=by
 have e:=padk_eq 9 x (by omega) (by rw [← wB_pow]; exact h)
 have e2:=padk_length 9 x
 rw [e,List.length_append,List.length_replicate] at e2
 rw [← toList_length,dec_toList]
 omega
theorem chunk_eq {l : List Nat} (ho : Okw l) (x : Nat) : chunk l x=if x+1<l.length then List.replicate (9 - (dec (wd l x)).size) 48++(dec (wd l x)).data.toList else (dec (wd l x)).data.toList:=by
 unfold chunk
 have e:=padk_eq 9 (wd l x) (by omega) (by rw [← wB_pow]; exact ho.wd x)
 rw [← toList_length,dec_toList,← e]
theorem chunk_length {l : List Nat} (ho : Okw l) (x : Nat) : (chunk l x).length≤9:=by
 unfold chunk
 split
 ·exact Nat.le_of_eq (padk_length _ _)
 ·have:=dec_len9 (ho.wd x)
  rw [← toList_length,dec_toList] at this
  exact this
theorem txs_length {l : List Nat} (ho : Okw l) : ∀ pre : List Nat,(txs l pre).length≤9 * pre.length
 | []=>by simp [txs]
 | x :: pre=>by
  have:=txs_length ho pre
  have h2:=chunk_length ho x
  have e : txs l (x :: pre)=chunk l x++txs l pre:=by simp [txs]
  rw [e,List.length_append,List.length_cons]
  omega
theorem zeros (c : Nat) : Lib.repeatL [48] c=List.replicate c 48:=by
 have:=Lib.repeatL_replicate 48 1 c
 rw [Nat.mul_one] at this
 exact this
set_option maxRecDepth 100000 in
set_option maxHeartbeats 2000000 in
theorem text_walk (v : Value) (m : Nat) (w : World) (h : Num w v m) (hB : Bw w) (hl : (wds m).length≤100000000) :
  Calls Tryz.prog 215 #[v] w fun e w'=>e=.returned (.string (dec m))∧Below w.heap.size w w':=by
 obtain ⟨A,cap,rfl,hn,hc,hcell⟩:=h.open
 by_cases h0 : (wds m).length=0
 ·have e0 : m=0:=by rw [← wds_eq_nil]; exact List.length_eq_zero_iff.1 h0
  subst e0
  rw [wds_zero] at *
  rw [dec_zero]
  go_enter Tryz.func215,Tryz.ntmps215
  go_wp2
  go_ret
  exact ⟨rfl,(Below.refl _ _).alloc (Nat.le_refl _) _⟩
 ·obtain ⟨b,off,rfl,hcs⟩:=hcell (by omega)
  have hb : b<w.heap.size:=World.block_lt_of_cell? w ⟨b,off+0,none⟩ (hcs 0 (by omega))
  clear hcell
  refine (callsIn_wide (n:=5)).1 ?_
  refine callsIn_of_wp_marks Tryz.func215 rfl trivial ?_ rfl
  simp only [Tryz.ntmps215,List.size_toArray,List.length_cons,List.length_nil,Nat.reduceAdd,Nat.reduceSub,Array.replicate_succ,Array.replicate_zero,List.push_toArray,List.append_toArray,List.nil_append,List.cons_append]
  have hz : (((wds m).length : Int) == 0)=false:=beq_eq_false_iff_ne.2 (by omega)
  gi_wp2_with (refine ⟨trivial, ?_⟩; gi_at_call 233; refine (back_in Fence.wide _ trivial rfl _ _ _ _).mono ?_; rintro e w' ⟨rfl,rfl⟩)
  have hB0 : Below w.heap.size w (((w.alloc (.cells #[.slice (some ⟨b,off,none⟩) (wds m).length cap] 258)).alloc (.cells #[.pointer none,.slice none 0 0] 291)).alloc (.cells #[.slice (some ⟨b,off,none⟩) (wds m).length cap] 258)):=(((Below.refl _ w).alloc (Nat.le_refl _) _).alloc (by simp) _).alloc (by simp; omega) _
  have hcs1 : ∀ j,j<(wds m).length→_:=fun j hj=>(hB0.cell (p:=⟨b,off+j,none⟩) hb).trans (hcs j hj)
  have hn1:=(((Boxed.new w 258 (.slice (some ⟨b,off,none⟩) (wds m).length cap)).alloc (.cells #[.pointer none,.slice none 0 0] 291)).alloc (.cells #[.slice (some ⟨b,off,none⟩) (wds m).length cap] 258)).cell
  have hbk : (((w.alloc (.cells #[.slice (some ⟨b,off,none⟩) (wds m).length cap] 258)).alloc (.cells #[.pointer none,.slice none 0 0] 291)).alloc (.cells #[.slice (some ⟨b,off,none⟩) (wds m).length cap] 258)).heap[w.heap.size+1+1]?=some (.cells #[.slice (some ⟨b,off,none⟩) (wds m).length cap] 258 (0,0)):=by
   have:=heap_new ((w.alloc (.cells #[.slice (some ⟨b,off,none⟩) (wds m).length cap] 258)).alloc (.cells #[.pointer none,.slice none 0 0] 291)) (.cells #[.slice (some ⟨b,off,none⟩) (wds m).length cap] 258)
   rw [World.size_alloc,World.size_alloc] at this
   exact this
  have hbu : Lib.IsBuilderF 291 5 (w.heap.size+1) (w.heap.size+1) [] (((w.alloc (.cells #[.slice (some ⟨b,off,none⟩) (wds m).length cap] 258)).alloc (.cells #[.pointer none,.slice none 0 0] 291)).alloc (.cells #[.slice (some ⟨b,off,none⟩) (wds m).length cap] 258)):=by
   have h1:=heap_new (w.alloc (.cells #[.slice (some ⟨b,off,none⟩) (wds m).length cap] 258)) (.cells #[.pointer none,.slice none 0 0] 291)
   rw [World.size_alloc] at h1
   have h2:=((Below.refl _ ((w.alloc (.cells #[.slice (some ⟨b,off,none⟩) (wds m).length cap] 258)).alloc (.cells #[.pointer none,.slice none 0 0] 291))).alloc (Nat.le_refl _) (.cells #[.slice (some ⟨b,off,none⟩) (wds m).length cap] 258)).block (w.heap.size+1) (by simp)
   exact .inl ⟨Nat.le_refl _,.slice none 0 0,h2.trans h1,World.ownsRowF_nil _ _ _ _,by simp [Value.ownBlock]⟩
  have hsz : (((w.alloc (.cells #[.slice (some ⟨b,off,none⟩) (wds m).length cap] 258)).alloc (.cells #[.pointer none,.slice none 0 0] 291)).alloc (.cells #[.slice (some ⟨b,off,none⟩) (wds m).length cap] 258)).heap.size=w.heap.size+1+1+1:=by simp
  generalize hW1 : (((w.alloc (.cells #[.slice (some ⟨b,off,none⟩) (wds m).length cap] 258)).alloc (.cells #[.pointer none,.slice none 0 0] 291)).alloc (.cells #[.slice (some ⟨b,off,none⟩) (wds m).length cap] 258))=W1 at *
  refine wpIn_rangeFunc_ownG rfl (by omega) (gf:=249) (lb:=#[.pointer (some ⟨w.heap.size+1+1,0,none⟩)]) rfl trivial (enters_of Tryz.func249 (by kernel_rfl) rfl)
   (back_stops Fence.wide _ trivial rfl (by omega) (w.heap.size+1+1) (w.heap.size+1) b off cap (wds m) (by omega) W1 (by omega) (by omega) (by omega) hbk hcs1) Kb.trans (Kb.put (by omega) (by omega)) (Below.refl _ _) (fun _=>rfl)
   (fun pre W=>Lib.IsBuilderF 291 5 (w.heap.size+1) (w.heap.size+1) (Lib.byteCells (txs (wds m) pre)) W∧Below (w.heap.size+1) W1 W)
   (fun _ _ _=>False)
   (OwnFrom.and (fun s A B row hs hg hr=>isBuilderF_grown hs hg (fun r e=>(hr r e).2)) (ownFrom_below (by omega) (by omega)))
   (fun _ _ _ _ _ hs _ _=>hs)
   ⟨hbu,Below.refl _ _⟩
   (fun x=>{ tmps:=#[.slice (some ⟨b,off,none⟩) (wds m).length cap,.pointer (some ⟨w.heap.size,0,none⟩),.string ⟨#[]⟩,.pointer (some ⟨w.heap.size+1,0,none⟩),.int .i64 (x : Int),.int .u32 (wd (wds m) x : Int),undef,.slice (some ⟨b,off,none⟩) (wds m).length cap,.int .i64 ((wds m).length : Int),.bool false,.slice (some ⟨b,off,none⟩) (wds m).length cap,.func (.func 249) #[] #[.pointer (some ⟨w.heap.size+1+1,0,none⟩)],.int .i64 (x : Int),.int .u32 (wd (wds m) x : Int),undef,undef,undef,undef,undef,undef,undef,undef,undef,undef,undef,undef,undef,undef,undef,undef],defers:=[] }) ?assign ?body ?done ?stop
  case assign =>
   intro l x W K hK
   gi_wp2
   exact hK
  case body =>
   rintro l pre x W ⟨hbu,hBl⟩ hlen
   have hnW:=(hBl.cell (p:=⟨w.heap.size,0,none⟩) (by simp)).trans hn1
   have hBW:=hB0.trans (hBl.mono (by omega))
   have hbw:=hB.below hBW
   have hwx : (wd (wds m) x : Int)≤999999999:=by have:=(okw_wds m).wd x; rw [wB_eq] at this; omega
   have hwn : wd (wds m) x≤999999999:=by omega
   have HWN:=Lib.hid hwn
   clear hwn hn1 hbk hcs1 hcs
   have HSZ:=Lib.hid hsz
   clear hsz
   have hd9 : (dec (wd (wds m) x)).size≤9:=dec_len9 ((okw_wds m).wd x)
   have hck : chunk (wds m) x=if x+1<(wds m).length then List.replicate (9 - (dec (wd (wds m) x)).size) 48++(dec (wd (wds m) x)).data.toList else (dec (wd (wds m) x)).data.toList:=chunk_eq (okw_wds m) x
   have hfm:=formatUint_walk _ HWN.out W hbw
   generalize hdd : dec (wd (wds m) x)=d at *
   by_cases hx : x+1<(wds m).length
   ·have hxi : (x : Int)<((wds m).length : Int) - 1:=by omega
    obtain ⟨c,hc9⟩ : ∃ c : Nat,(9 : Int) - (d.size : Int)=c:=⟨9 - d.size,by omega⟩
    have hc10 : c≤1000000:=by omega
    have HC:=Lib.hid hc10
    gi_wp2_with (refine ⟨trivial, ?_⟩; first
     | (gi_at_call 234; refine (CallsIn.inRound l (callsIn_wide.2 hfm)).mono ?_; rintro e w2 ⟨rfl,g2⟩; have hn2:=cell_below g2 hnW; have hbu2:=isBuilderF_grown hbu ⟨g2.os,g2.tape,g2.output,g2.size,fun k hk _=>g2.block k hk⟩ (row:=none) (fun _ e=>by cases e))
     | (gi_at_call 236; refine (CallsIn.inRound l (callsIn_wide.2 (repeat_walk ⟨#[48]⟩ c _ HC.out (by decide)))).mono ?_; rintro e w3 ⟨rfl,g3⟩))
    have hbu3:=isBuilderF_grown hbu2 ⟨g3.os,g3.tape,g3.output,g3.size,fun k hk _=>g3.block k hk⟩ (row:=none) (fun _ e=>by cases e)
    have htl : (txs (wds m) pre).length≤9000000000:=by have:=txs_length (okw_wds m) pre; omega
    have h3s : w.heap.size+1≤w3.heap.size:=by have:=g3.size; have:=g2.size; have:=hBl.size; have:=HSZ.out; omega
    refine ⟨trivial, ?_⟩
    refine (CallsIn.inRound l (callsIn_wide.2 (writeString_kept _ _ _ _ w3 hbu3 (by rw [Lib.byteCells_length,← toList_length]; show _ + (Lib.repeatL [48] c).length≤_; rw [zeros,List.length_replicate]; omega) h3s))).mono ?_
    rintro e w4 ⟨rfl,hbu4,g4,k4⟩
    gi_wp2_with (refine ⟨trivial, ?_⟩; gi_at_call 235; refine (CallsIn.inRound l (callsIn_wide.2 (writeString_kept _ _ _ d w4 hbu4 (by rw [List.length_append,Lib.byteCells_length,Lib.strCells_length,← toList_length]; show _ + (Lib.repeatL [48] c).length+_≤_; rw [zeros,List.length_replicate]; omega) (Nat.le_trans h3s g4.size)))).mono ?_; rintro e w5 ⟨rfl,hbu5,g5,k5⟩)
    have hst : Stp (w.heap.size+1) W w5:=((Stp.call g2 (by have:=hBl.size; have:=HSZ.out; omega)).trans (Stp.call g3 (by have:=hBl.size; have:=g2.size; have:=HSZ.out; omega))).trans ((Stp.write g4 k4).trans (Stp.write g5 k5))
    refine ⟨hst.keeps (by have:=HSZ.out; omega),hst.kb, ?_,hBl.trans hst.1⟩
    have e1 : txs (wds m) (pre++[x])=txs (wds m) pre++(List.replicate c 48++d.data.toList):=by
     rw [txs_snoc,hck,if_pos hx,show 9 - d.size=c by omega]
    rw [e1,Lib.byteCells_append,Lib.byteCells_append,← List.append_assoc,← zeros,← Lib.strCells_toArray,← Lib.strCells_eq]
    exact hbu5
   ·have hxi : ¬ (x : Int)<((wds m).length : Int) - 1:=by omega
    gi_wp2_with (refine ⟨trivial, ?_⟩; gi_at_call 234; refine (CallsIn.inRound l (callsIn_wide.2 hfm)).mono ?_; rintro e w2 ⟨rfl,g2⟩; have hn2:=cell_below g2 hnW; have hbu2:=isBuilderF_grown hbu ⟨g2.os,g2.tape,g2.output,g2.size,fun k hk _=>g2.block k hk⟩ (row:=none) (fun _ e=>by cases e))
    have htl : (txs (wds m) pre).length≤9000000000:=by have:=txs_length (okw_wds m) pre; omega
    have h2s : w.heap.size+1≤w2.heap.size:=by have:=g2.size; have:=hBl.size; have:=HSZ.out; omega
    refine ⟨trivial, ?_⟩
    refine (CallsIn.inRound l (callsIn_wide.2 (writeString_kept _ _ _ d w2 hbu2 (by rw [Lib.byteCells_length]; omega) h2s))).mono ?_
    rintro e w5 ⟨rfl,hbu5,g5,k5⟩
    gi_wp2
    have hst : Stp (w.heap.size+1) W w5:=(Stp.call g2 (by have:=hBl.size; have:=HSZ.out; omega)).trans (Stp.write g5 k5)
    refine ⟨hst.keeps (by have:=HSZ.out; omega),hst.kb, ?_,hBl.trans hst.1⟩
    have e1 : txs (wds m) (pre++[x])=txs (wds m) pre++d.data.toList:=by
     rw [txs_snoc,hck,if_neg hx]
    rw [e1,Lib.byteCells_append,← Lib.strCells_eq]
    exact hbu5
  case done =>
   rintro D ys W hD rfl ⟨hbu,hBl⟩ hK
   have htop : wd (wds m) ((wds m).length - 1)≠0:=by
    rcases lnz_wds m with e | e
    ·rw [e] at h0; exact absurd rfl h0
    ·exact e
   rw [txs_all (okw_wds m) (by omega) htop,val_wds] at hbu
   have hD1 : w.heap.size+1<D:=by omega
   gi_wp2_with (refine ⟨trivial, ?_⟩; gi_at_call 237; refine (callsIn_wide.2 (Any.Builder_String_any_k Tryz.lays169 Tryz.Builder_Extra_169 _ _ _ _ hbu (by have:=hBl.size; omega))).mono ?_; rintro e w6 ⟨rfl,h6,g6,k6⟩)
   have hK6 : w6.heap[D]?=some (.deferred (some [])):=k6 D _ hK (by simp; omega) (fun c fz e=>by cases e)
   refine ⟨by simp,.inl ⟨_,_,rfl,run_takeDeferred hK6, ?_⟩⟩
   exact ⟨_,results_tmp rfl _ _ _,rfl,(hB0.trans ((hBl.trans g6).mono (by omega))).trans (belowK_b (w:=w) (Nat.le_refl _) w6 D _ _ (by omega) hK6 rfl rfl)⟩
  case stop =>
   rintro D c pre W _ _ h _
   exact h.elim
end Go.Proofs.YtopfedbhkfdjkaaGreatDoor


/- natural: apply, and the functions on texts. -/
namespace Go.Proofs.YtopfedbhkfdjkaaGreatDoor
open Go Go.RowKit
set_option maxHeartbeats 400000 in
theorem apply_plus (v u : Value) (r : Nat) (w : World) (hB : Bw w) (hl : (wds r).length≤100000000)
  (hc : Calls Tryz.prog 217 #[v,u] w (Ret fun v' w'=>Num w' v' r∧Below w.heap.size w w')) :
  Calls Tryz.prog 198 #[.func (.func 217) #[v] #[],u] w fun e w'=>e=.returned (.tuple #[.string (dec r),.int .i64 0])∧Below w.heap.size w w':=by
 have HL:=Lib.hid hl
 have HC:=Lib.hid hc
 clear hl hc
 go_enter Tryz.func198,Tryz.ntmps198
 go_wp2_with fail
 refine HC.out.mono ?_
 rintro e w1 ⟨v1,rfl,g1,g2⟩
 go_wp2_with fail
 refine (text_walk v1 r w1 g1 (hB.below g2) HL.out).mono ?_
 rintro e w2 ⟨rfl,g4⟩
 go_wp2
 go_ret2
 exact ⟨rfl,below_then g2 g2.size g4⟩
set_option maxHeartbeats 400000 in
theorem apply_minus (v u : Value) (r : Nat) (w : World) (hB : Bw w) (hl : (wds r).length≤100000000)
  (hc : Calls Tryz.prog 219 #[v,u] w (Ret fun v' w'=>Num w' v' r∧Below w.heap.size w w')) :
  Calls Tryz.prog 198 #[.func (.func 219) #[v] #[],u] w fun e w'=>e=.returned (.tuple #[.string (dec r),.int .i64 0])∧Below w.heap.size w w':=by
 have HL:=Lib.hid hl
 have HC:=Lib.hid hc
 clear hl hc
 go_enter Tryz.func198,Tryz.ntmps198
 go_wp2_with fail
 refine HC.out.mono ?_
 rintro e w1 ⟨v1,rfl,g1,g2⟩
 go_wp2_with fail
 refine (text_walk v1 r w1 g1 (hB.below g2) HL.out).mono ?_
 rintro e w2 ⟨rfl,g4⟩
 go_wp2
 go_ret2
 exact ⟨rfl,below_then g2 g2.size g4⟩
set_option maxHeartbeats 400000 in
theorem apply_times (v u : Value) (r : Nat) (w : World) (hB : Bw w) (hl : (wds r).length≤100000000)
  (hc : Calls Tryz.prog 199 #[v,u] w (Ret fun v' w'=>Num w' v' r∧Below w.heap.size w w')) :
  Calls Tryz.prog 198 #[.func (.func 199) #[v] #[],u] w fun e w'=>e=.returned (.tuple #[.string (dec r),.int .i64 0])∧Below w.heap.size w w':=by
 have HL:=Lib.hid hl
 have HC:=Lib.hid hc
 clear hl hc
 go_enter Tryz.func198,Tryz.ntmps198
 go_wp2_with fail
 refine HC.out.mono ?_
 rintro e w1 ⟨v1,rfl,g1,g2⟩
 go_wp2_with fail
 refine (text_walk v1 r w1 g1 (hB.below g2) HL.out).mono ?_
 rintro e w2 ⟨rfl,g4⟩
 go_wp2
 go_ret2
 exact ⟨rfl,below_then g2 g2.size g4⟩
set_option maxHeartbeats 400000 in
theorem apply_gcd (v u : Value) (r : Nat) (w : World) (hB : Bw w) (hl : (wds r).length≤100000000)
  (hc : Calls Tryz.prog 206 #[v,u] w (Ret fun v' w'=>Num w' v' r∧Below w.heap.size w w')) :
  Calls Tryz.prog 198 #[.func (.func 206) #[v] #[],u] w fun e w'=>e=.returned (.tuple #[.string (dec r),.int .i64 0])∧Below w.heap.size w w':=by
 have HL:=Lib.hid hl
 have HC:=Lib.hid hc
 clear hl hc
 go_enter Tryz.func198,Tryz.ntmps198
 go_wp2_with fail
 refine HC.out.mono ?_
 rintro e w1 ⟨v1,rfl,g1,g2⟩
 go_wp2_with fail
 refine (text_walk v1 r w1 g1 (hB.below g2) HL.out).mono ?_
 rintro e w2 ⟨rfl,g4⟩
 go_wp2
 go_ret2
 exact ⟨rfl,below_then g2 g2.size g4⟩
end Go.Proofs.YtopfedbhkfdjkaaGreatDoor


/- natural: the functions on texts. -/
namespace Go.Proofs.YtopfedbhkfdjkaaGreatDoor
open Go Go.RowKit
theorem wds_le_dec (n : Nat) : (wds n).length≤(dec n).size:=by
 refine wds_lt_pow ?_
 have h:=natOf_lt (digs_decDigits n)
 rw [natOf_decDigits,← dec_toList,toList_length] at h
 exact Nat.lt_of_lt_of_le h (Nat.pow_le_pow_left (by rw [wB_eq]; omega) _)
set_option maxHeartbeats 1000000 in
theorem natAdd_walk (n m : Nat) (hn : (dec n).size≤100000000) (hm : (dec m).size≤100000000) (hr : (wds (n+m)).length≤100000000) (w : World) (hB : Bw w) :
  Calls Tryz.prog 200 #[.string (dec n),.string (dec m)] w fun e w'=>e=.returned (.tuple #[.string (dec (n+m)),.int .i64 0])∧Below w.heap.size w w':=by
 have HN:=Lib.hid hn
 have HM:=Lib.hid hm
 have HR:=Lib.hid hr
 have H1:=Lib.hid (Nat.le_trans (wds_le_dec n) hn)
 have H2:=Lib.hid (Nat.le_trans (wds_le_dec m) hm)
 clear hn hm hr
 go_enter Tryz.func200,Tryz.ntmps200
 go_wp2_with fail
 refine (both_walk n m HN.out HM.out w).mono ?_
 rintro e w1 ⟨v,u,rfl,g1,g2,g3⟩
 go_wp2_with fail
 refine (apply_plus v u (n+m) w1 (hB.below g3) HR.out ?_).mono ?_
 ·refine (plus_walk v u n m w1 g1.num g2.num (Nat.le_trans H1.out (by decide)) (Nat.le_trans H2.out (by decide))).mono ?_
  rintro e w2 ⟨v2,rfl,g4,g5⟩
  exact ⟨v2,rfl,g4.num,g5⟩
 rintro e w3 ⟨rfl,g6⟩
 go_wp2
 go_ret2
 exact ⟨rfl,below_then g3 g3.size g6⟩
set_option maxHeartbeats 1000000 in
theorem natMul_walk (n m : Nat) (hn : (dec n).size≤100000000) (hm : (dec m).size≤100000000) (hr : (wds (n * m)).length≤100000000) (w : World) (hB : Bw w) :
  Calls Tryz.prog 174 #[.string (dec n),.string (dec m)] w fun e w'=>e=.returned (.tuple #[.string (dec (n * m)),.int .i64 0])∧Below w.heap.size w w':=by
 have HN:=Lib.hid hn
 have HM:=Lib.hid hm
 have HR:=Lib.hid hr
 have H1:=Lib.hid (Nat.le_trans (wds_le_dec n) hn)
 have H2:=Lib.hid (Nat.le_trans (wds_le_dec m) hm)
 clear hn hm hr
 go_enter Tryz.func174,Tryz.ntmps174
 go_wp2_with fail
 refine (both_walk n m HN.out HM.out w).mono ?_
 rintro e w1 ⟨v,u,rfl,g1,g2,g3⟩
 go_wp2_with fail
 refine (apply_times v u (n * m) w1 (hB.below g3) HR.out ?_).mono ?_
 ·refine (times_walk v u n m w1 g1.num g2.num (Nat.le_trans H1.out (by decide)) (Nat.le_trans H2.out (by decide))).mono ?_
  rintro e w2 ⟨v2,rfl,g4,g5⟩
  exact ⟨v2,rfl,g4.num,g5⟩
 rintro e w3 ⟨rfl,g6⟩
 go_wp2
 go_ret2
 exact ⟨rfl,below_then g3 g3.size g6⟩
set_option maxHeartbeats 1000000 in
theorem natGCD_walk (n m : Nat) (hn : (dec n).size≤100000000) (hm : (dec m).size≤100000000) (hr : (wds (Nat.gcd n m)).length≤100000000) (w : World) (hB : Bw w) :
  Calls Tryz.prog 185 #[.string (dec n),.string (dec m)] w fun e w'=>e=.returned (.tuple #[.string (dec (Nat.gcd n m)),.int .i64 0])∧Below w.heap.size w w':=by
 have HN:=Lib.hid hn
 have HM:=Lib.hid hm
 have HR:=Lib.hid hr
 have H1:=Lib.hid (Nat.le_trans (wds_le_dec n) hn)
 have H2:=Lib.hid (Nat.le_trans (wds_le_dec m) hm)
 clear hn hm hr
 go_enter Tryz.func185,Tryz.ntmps185
 go_wp2_with fail
 refine (both_walk n m HN.out HM.out w).mono ?_
 rintro e w1 ⟨v,u,rfl,g1,g2,g3⟩
 go_wp2_with fail
 refine (apply_gcd v u (Nat.gcd n m) w1 (hB.below g3) HR.out ?_).mono ?_
 ·refine (gcd_walk v u n m w1 g1.num g2.num (Nat.le_trans H1.out (by decide)) (Nat.le_trans H2.out (by decide))).mono ?_
  rintro e w2 ⟨v2,rfl,g4,g5⟩
  exact ⟨v2,rfl,g4,g5⟩
 rintro e w3 ⟨rfl,g6⟩
 go_wp2
 go_ret2
 exact ⟨rfl,below_then g3 g3.size g6⟩
end Go.Proofs.YtopfedbhkfdjkaaGreatDoor


/- natural: Sub, DivMod, Compare on texts. -/
namespace Go.Proofs.YtopfedbhkfdjkaaGreatDoor
open Go Go.RowKit
set_option maxHeartbeats 1000000 in
theorem natCompare_walk (n m : Nat) (hn : (dec n).size≤100000000) (hm : (dec m).size≤100000000) (w : World) :
  Calls Tryz.prog 201 #[.string (dec n),.string (dec m)] w fun e w'=>e=.returned (.tuple #[.int .i64 (cmpN n m),.int .i64 0])∧Below w.heap.size w w':=by
 have HN:=Lib.hid hn
 have HM:=Lib.hid hm
 clear hn hm
 go_enter Tryz.func201,Tryz.ntmps201
 go_wp2_with fail
 refine (both_walk n m HN.out HM.out w).mono ?_
 rintro e w1 ⟨v,u,rfl,g1,g2,g3⟩
 go_wp2_with fail
 refine (compare_walk v u n m w1 g1.num g2.num).mono ?_
 rintro e w3 ⟨rfl,g6⟩
 go_wp2
 go_ret2
 exact ⟨rfl,below_then g3 g3.size g6⟩
set_option maxHeartbeats 1000000 in
theorem natSub_walk (n m : Nat) (hle : m≤n) (hn : (dec n).size≤100000000) (hm : (dec m).size≤100000000) (hr : (wds (n - m)).length≤100000000) (w : World) (hB : Bw w) :
  Calls Tryz.prog 202 #[.string (dec n),.string (dec m)] w fun e w'=>e=.returned (.tuple #[.string (dec (n - m)),.int .i64 0])∧Below w.heap.size w w':=by
 have HN:=Lib.hid hn
 have HM:=Lib.hid hm
 have HR:=Lib.hid hr
 have HL:=Lib.hid hle
 have H1:=Lib.hid (Nat.le_trans (wds_le_dec n) hn)
 have H2:=Lib.hid (Nat.le_trans (wds_le_dec m) hm)
 have hcm : ¬ cmpN n m<0:=by
  unfold cmpN
  split
  ·omega
  ·split<;>omega
 clear hn hm hr hle
 go_enter Tryz.func202,Tryz.ntmps202
 go_wp2_with fail
 refine (both_walk n m HN.out HM.out w).mono ?_
 rintro e w1 ⟨v,u,rfl,g1,g2,g3⟩
 go_wp2_with fail
 refine (compare_walk v u n m w1 g1.num g2.num).mono ?_
 rintro e w2 ⟨rfl,g6⟩
 have k1:=g1.below g6
 have k2:=g2.below g6
 have k3:=below_then g3 g3.size g6
 go_wp2_with fail
 refine (apply_minus v u (n - m) w2 (hB.below k3) HR.out ?_).mono ?_
 ·refine (minus_walk v u n m HL.out w2 k1.num k2.num (Nat.le_trans H1.out (by decide)) (Nat.le_trans H2.out (by decide))).mono ?_
  rintro e w3 ⟨v2,rfl,g4,g5⟩
  exact ⟨v2,rfl,g4.num,g5⟩
 rintro e w3 ⟨rfl,g7⟩
 go_wp2
 go_ret2
 exact ⟨rfl,below_then k3 k3.size g7⟩
set_option maxHeartbeats 1000000 in
theorem natDivMod_walk (n m : Nat) (h0 : 0<m) (hn : (dec n).size≤100000000) (hm : (dec m).size≤100000000) (hr : (wds (n / m)).length≤100000000) (hr2 : (wds (n % m)).length≤100000000) (w : World) (hB : Bw w) :
  Calls Tryz.prog 230 #[.string (dec n),.string (dec m)] w fun e w'=>e=.returned (.tuple #[.string (dec (n / m)),.string (dec (n % m)),.int .i64 0])∧Below w.heap.size w w':=by
 have HN:=Lib.hid hn
 have HM:=Lib.hid hm
 have HR:=Lib.hid hr
 have HR2:=Lib.hid hr2
 have HL:=Lib.hid h0
 have H1:=Lib.hid (Nat.le_trans (wds_le_dec n) hn)
 have hz : (((wds m).length : Int) == 0)=false:=by
  have : (wds m).length≠0:=fun e=>by
   have:=wds_eq_nil (n:=m) |>.1 (List.length_eq_zero_iff.1 e)
   omega
  exact beq_eq_false_iff_ne.2 (by omega)
 clear hn hm hr hr2 h0
 go_enter Tryz.func230,Tryz.ntmps230
 go_wp2_with fail
 refine (both_walk n m HN.out HM.out w).mono ?_
 rintro e w1 ⟨v,u,rfl,g1,g2,g3⟩
 obtain ⟨A,cap,rfl, -, -⟩:=Own.form g2
 go_wp2_with fail
 refine (divide_walk v _ n m HL.out w1 g1.num g2.num (Nat.le_trans H1.out (by decide))).mono ?_
 rintro e w2 ⟨q,r,rfl,k1,k2,k3⟩
 have k4:=below_then g3 g3.size k3
 go_wp2_with fail
 refine (text_walk q (n / m) w2 k1 (hB.below k4) HR.out).mono ?_
 rintro e w3 ⟨rfl,k5⟩
 have k6:=below_then k4 k4.size k5
 go_wp2_with fail
 refine (text_walk r (n % m) w3 (k2.below k5) (hB.below k6) HR2.out).mono ?_
 rintro e w4 ⟨rfl,k7⟩
 go_wp2
 go_ret3
 exact ⟨rfl,below_then k6 k6.size k7⟩
end Go.Proofs.YtopfedbhkfdjkaaGreatDoor


/- Words for the walks above natural: worlds that only grow, in short names; sizes of numbers. No function of the program. -/
namespace Go.Proofs.YtopfedbhkfdjkaaGreatDoor
open Go Go.RowKit
theorem br (w : World) : Below w.heap.size w w:=Below.refl _ _
theorem ba {w W : World} (h : Below w.heap.size w W) {o : Obj} : Below w.heap.size w (W.alloc o):=h.alloc h.size o
theorem bs {w W : World} (h : Below w.heap.size w W) {p : Addr} {u : Value} (hp : w.heap.size≤p.block) : Below w.heap.size w (W.setCell p u):=h.setCell hp u
theorem bd {w W : World} (h : Below w.heap.size w W) : Below w.heap.size w W.drew:=h.drew
theorem bn {w W V : World} (h : Below w.heap.size w W) (g : Below W.heap.size W V) : Below w.heap.size w V:=below_then h h.size g
theorem bc {W V : World} (g : Below W.heap.size W V) {b o : Nat} {v : Value} (h : W.cell? ⟨b,o,none⟩=some v) : V.cell? ⟨b,o,none⟩=some v:=cell_below g h
theorem bfz {W V : World} (g : Below W.heap.size W V) {b o : Nat} (hb : b<W.heap.size) (h : W.frozen? ⟨b,o,none⟩=false) : V.frozen? ⟨b,o,none⟩=false:=(g.frozen (p:=⟨b,o,none⟩) hb).trans h
/- What keeps: cells and sizes behind an alloc, behind a store elsewhere. -/
theorem cal {W : World} {o : Obj} {p : Addr} {v : Value} (h : W.cell? p=some v) : (W.alloc o).cell? p=some v:=by
 rw [World.cell?_alloc_some _ _ _ (by rw [h]; rfl)]; exact h
theorem cset {W : World} {p : Addr} {u : Value} {b o : Nat} {v : Value} (h : W.cell? ⟨b,o,none⟩=some v) (hb : p.block≠b) : (W.setCell p u).cell? ⟨b,o,none⟩=some v:=by
 rw [World.cell?_setCell_far _ _ _ _ hb]; exact h
theorem zal {W : World} {o : Obj} {n : Nat} (h : n<W.heap.size) : n<(W.alloc o).heap.size:=by simp; omega
theorem zset {W : World} {p : Addr} {u : Value} {n : Nat} (h : n<W.heap.size) : n<(W.setCell p u).heap.size:=by simp; omega
def dg (n : Nat) : Nat:=(dec n).size
theorem dg_def (n : Nat) : (dec n).size=dg n:=rfl
theorem dg_le {n k : Nat} (h0 : 0<k) (h : n<10 ^ k) : dg n≤k:=by
 unfold dg
 rw [dec_size]
 rcases Nat.lt_or_ge k (Lib.nDigits n) with hl | hl
 ·have hk : 10 ^ k≤10 ^ (Lib.nDigits n - 1):=Nat.pow_le_pow_right (by omega) (by omega)
  have h1 : n≠0:=fun e=>by
   subst e
   rw [Lib.nDigits_small (by omega)] at hl
   omega
  have h2 : ∀ m : Nat,m≠0→10 ^ (Lib.nDigits m - 1)≤m:=by
   intro m
   induction m using Nat.strongRecOn with
   | _ m ih =>
    intro hm
    by_cases h : m<10
    ·rw [Lib.nDigits_small h]; simp; omega
    ·have:=ih (m / 10) (by omega) (by omega)
     have hp:=Lib.nDigits_pos (m / 10)
     rw [Lib.nDigits_big h,show Lib.nDigits (m / 10)+1 - 1=(Lib.nDigits (m / 10) - 1)+1 by omega,Nat.pow_succ]
     omega
  have:=h2 n h1
  omega
 ·exact hl
theorem lt_dg (n : Nat) : n<10 ^ dg n:=by
 unfold dg
 rw [dec_size]
 exact Lib.lt_pow_nDigits n
theorem dg_pos (n : Nat) : 0<dg n:=by
 unfold dg
 rw [dec_size]
 exact Lib.nDigits_pos n
theorem dg_mono {n m : Nat} (h : n≤m) : dg n≤dg m:=dg_le (dg_pos m) (Nat.lt_of_le_of_lt h (lt_dg m))
theorem dg_mul (n m : Nat) : dg (n * m)≤dg n+dg m:=by
 refine dg_le (by have:=dg_pos n; omega) ?_
 rw [Nat.pow_add]
 have h1:=lt_dg n
 have h2:=lt_dg m
 rcases Nat.eq_zero_or_pos m with e | e
 ·subst e
  rw [Nat.mul_zero]
  exact Nat.mul_pos (Nat.pow_pos (by omega)) (Nat.pow_pos (by omega))
 ·exact Nat.lt_of_lt_of_le (Nat.mul_lt_mul_of_pos_right h1 e) (Nat.mul_le_mul_left _ (Nat.le_of_lt h2))
theorem dg_add (n m : Nat) : dg (n+m)≤max (dg n) (dg m)+1:=by
 refine dg_le (by omega) ?_
 have h1:=lt_dg n
 have h2:=lt_dg m
 have k1 : 10 ^ dg n≤10 ^ max (dg n) (dg m):=Nat.pow_le_pow_right (by omega) (by omega)
 have k2 : 10 ^ dg m≤10 ^ max (dg n) (dg m):=Nat.pow_le_pow_right (by omega) (by omega)
 rw [Nat.pow_succ]
 omega
theorem dg_small {n : Nat} (h : n<10) : dg n=1:=by
 unfold dg
 rw [dec_size,Lib.nDigits_small h]
theorem wds_le_dg (n : Nat) : (wds n).length≤dg n:=wds_le_dec n
def rz (q : Rat) : Nat:=max (dg q.num.natAbs) (dg q.den)
theorem rz_num (q : Rat) : dg q.num.natAbs≤rz q:=Nat.le_max_left _ _
theorem rz_den (q : Rat) : dg q.den≤rz q:=Nat.le_max_right _ _
theorem rz_neg (q : Rat) : rz (-q)=rz q:=by unfold rz; simp
theorem rz_mk {p : Int} {d k : Nat} (h0 : d≠0) (h1 : dg p.natAbs≤k) (h2 : dg d≤k) : rz (mkRat p d)≤k:=by
 unfold rz
 rw [Rat.num_mkRat,Rat.den_mkRat]
 simp only [h0,if_false,ite_false]
 refine Nat.max_le.2 ⟨Nat.le_trans (dg_mono ?_) h1,Nat.le_trans (dg_mono (Nat.div_le_self _ _)) h2⟩
 exact Int.natAbs_ediv_le_natAbs _ _
theorem rz_mul (x y : Rat) : rz (x * y)≤rz x+rz y:=by
 rw [Rat.mul_def',]
 refine rz_mk (Nat.mul_ne_zero x.den_nz y.den_nz) ?_ ?_
 ·rw [Int.natAbs_mul]
  have:=dg_mul x.num.natAbs y.num.natAbs
  have:=rz_num x
  have:=rz_num y
  omega
 ·have:=dg_mul x.den y.den
  have:=rz_den x
  have:=rz_den y
  omega
theorem rz_add (x y : Rat) : rz (x+y)≤rz x+rz y+1:=by
 rw [Rat.add_def']
 have a1:=rz_num x
 have a2:=rz_num y
 have a3:=rz_den x
 have a4:=rz_den y
 refine rz_mk (Nat.mul_ne_zero x.den_nz y.den_nz) ?_ ?_
 ·have b1:=dg_mul x.num.natAbs y.den
  have b2:=dg_mul y.num.natAbs x.den
  have b3:=dg_add (x.num.natAbs * y.den) (y.num.natAbs * x.den)
  have b4 : (x.num * y.den+y.num * x.den).natAbs≤x.num.natAbs * y.den+y.num.natAbs * x.den:=by
   have:=Int.natAbs_add_le (x.num * y.den) (y.num * x.den)
   rwa [Int.natAbs_mul,Int.natAbs_mul,Int.natAbs_natCast,Int.natAbs_natCast] at this
  have:=dg_mono b4
  omega
 ·have:=dg_mul x.den y.den
  omega
theorem rz_inv (x : Rat) : rz x⁻¹=rz x:=by
 unfold rz
 rw [Rat.num_inv,Rat.den_inv]
 by_cases h : x.num=0
 ·have hd : x.den=1:=by
   have:=x.reduced
   rw [h] at this
   simpa [Nat.Coprime] using this
  simp [h,hd,dg_small]
 ·simp [h,Int.natAbs_mul,Int.natAbs_sign]
  exact Nat.max_comm _ _
theorem rz_div (x y : Rat) : rz (x / y)≤rz x+rz y:=by
 rw [Rat.div_def]
 have:=rz_mul x y⁻¹
 rwa [rz_inv] at this
theorem rz_sub (x y : Rat) : rz (x - y)≤rz x+rz y+1:=by
 rw [Rat.sub_eq_add_neg]
 have:=rz_add x (-y)
 rwa [rz_neg] at this
section
variable {P : Program} {ops : Array Oper} {Q : Exit→Act→World→Prop} {md : Region.Mode} {S : World→Prop} {fuel : Nat} {listed : Array Bool} {a : Act} {w : World}
theorem wtl (i : Nat) (v : Value) {oi : Oper} (hi : ops[i]?=some oi) (hy : YieldsIf P ops S oi v a) (hS : S w) (h : wpAnyH P md ops Q S fuel (listed.setIfInBounds i true) (a.put oi.dst v) w) (hs : Region.noSelect ops=true:=by kernel_rfl) (hf : Region.free md ops listed i=true:=by kernel_rfl) (hr : (Region.ready md ops listed).contains i=true:=by kernel_rfl) (hQ : ∀ c a w,Q (.panic c) (a.put oi.dst v) w→Q (.panic c) a w:=by exact fun _ _ _ h=>h) : wpAnyH P md ops Q S (fuel+1) listed a w:=wpAnyH_take hi hs hf hr hQ hy hS h
theorem wtk (i : Nat) (v : Value) {oi : Oper} (hi : ops[i]?=some oi) (hw : Region.wanted oi (yielded ops a.tmps)=true) (hy : ∀ w,S w→(execOp a.eval oi).run P w=.ok (.value v) w) (hS : S w) (h : wpAnyH P md ops Q S fuel (listed.setIfInBounds i true) (a.put oi.dst v) w) (hs : Region.noSelect ops=true:=by kernel_rfl) (hf : Region.free md ops listed i=true:=by kernel_rfl) (hr : (Region.ready md ops listed).contains i=true:=by kernel_rfl) (hQ : ∀ c a w,Q (.panic c) (a.put oi.dst v) w→Q (.panic c) a w:=by exact fun _ _ _ h=>h) : wpAnyH P md ops Q S (fuel+1) listed a w:=wpAnyH_take hi hs hf hr hQ (Or.inl ⟨hw,hy⟩) hS h
theorem wrd (i : Nat) {o : Oper} (ho : ops[i]?=some o) (h : ∀ K' : Act→World→Prop,Shut (∀ a w,S w→(S w→wpAnyH P md ops Q S fuel (listed.setIfInBounds i true) a w)→K' a w)→if Region.wanted o (yielded ops a.tmps)=true then Oper.wp P o a w K' Q else K' (a.put o.dst undef) w) (hr : Region.ready md ops listed=[i]:=by kernel_rfl) : wpAnyH P md ops Q S (fuel+1) listed a w:=wpAnyH_ready hr (by simp) (AllReadyH.cons ho h AllReadyH.nil)
end
theorem bel {w W : World} (h : Below w.heap.size w W:=by repeat (first | exact br _ | assumption | refine ba ?_ | refine bd ?_ | refine below_drewN ?_ _ | refine bs ?_ (by (try simp)<;>omega))) : Below w.heap.size w W:=h
theorem bcs {W V : World} (g : Below W.heap.size W V) {b o : Nat} {v : Value} (h : W.cell? ⟨b,o,none⟩=some v:=by first | with_reducible assumption | go_simp) : V.cell? ⟨b,o,none⟩=some v:=bc g h
theorem bfs {W V : World} (g : Below W.heap.size W V) {b o : Nat} (hb : b<W.heap.size:=by (try simp)<;>omega) (h : W.frozen? ⟨b,o,none⟩=false:=by first | with_reducible assumption | go_simp) : V.frozen? ⟨b,o,none⟩=false:=bfz g hb h
theorem bcv {W V : World} (g : Below W.heap.size W V) (b o : Nat) (v : Value) (h : W.cell? ⟨b,o,none⟩=some v:=by first | with_reducible assumption | go_simp) : V.cell? ⟨b,o,none⟩=some v:=bc g h
theorem bfv {W V : World} (g : Below W.heap.size W V) (b o : Nat) (hb : b<W.heap.size:=by (try simp)<;>omega) (h : W.frozen? ⟨b,o,none⟩=false:=by first | with_reducible assumption | go_simp) : V.frozen? ⟨b,o,none⟩=false:=bfz g hb h
theorem hzs {W V : World} (g : Below W.heap.size W V) {n : Nat} (h : n<W.heap.size:=by (try simp)<;>omega) : n<V.heap.size:=Nat.lt_of_lt_of_le h g.size
theorem lsx : (∀ {α : Type} (l : List α) (i : Nat) (x : α),l.toArray.setIfInBounds i x=(l.set i x).toArray)∧(∀ {α : Type} (a : α) (l : List α) (b : α),(a :: l).set 0 b=b :: l)∧(∀ {α : Type} (a : α) (l : List α) (i : Nat) (b : α),(a :: l).set (i+1) b=a :: l.set i b)∧(∀ {α : Type} (l : List α) (i : Nat) (h : i<l.toArray.size),l.toArray[i]=l[i]'(by simpa using h))∧(∀ {α : Type} (a : α) (l : List α) (i : Nat) (h : i+1<(a :: l).length),(a :: l)[i+1]=l[i]'(by simpa using h))∧(∀ {α : Type} (a : α) (l : List α) (h : 0<(a :: l).length),(a :: l)[0]=a):=⟨by simp,by simp,by simp,by simp,by simp,by simp⟩
theorem k6x {W V : World} {b0 b1 b2 b3 b4 b5 o0 o1 o2 o3 o4 o5 : Nat} {v0 v1 v2 v3 v4 v5 : Value} (h0 : W.cell? ⟨b0,o0,none⟩=some v0) (h1 : W.cell? ⟨b1,o1,none⟩=some v1) (h2 : W.cell? ⟨b2,o2,none⟩=some v2) (h3 : W.cell? ⟨b3,o3,none⟩=some v3) (h4 : W.cell? ⟨b4,o4,none⟩=some v4) (h5 : W.cell? ⟨b5,o5,none⟩=some v5) (hb : Below W.heap.size W V:=by repeat (first | with_reducible assumption | (with_reducible exact bd (br _)) | (with_reducible exact br _) | (with_reducible refine ba ?_) | (with_reducible refine bd ?_) | (refine bs ?_ ?_; rotate_left; ((try simp)<;>omega)))) : V.cell? ⟨b0,o0,none⟩=some v0∧V.cell? ⟨b1,o1,none⟩=some v1∧V.cell? ⟨b2,o2,none⟩=some v2∧V.cell? ⟨b3,o3,none⟩=some v3∧V.cell? ⟨b4,o4,none⟩=some v4∧V.cell? ⟨b5,o5,none⟩=some v5∧Below W.heap.size W V:=⟨bc hb h0,bc hb h1,bc hb h2,bc hb h3,bc hb h4,bc hb h5,hb⟩
theorem bup {w W : World} (h : Below w.heap.size w W:=by repeat (first | with_reducible exact br _ | with_reducible refine ba ?_ | with_reducible refine bd ?_ | with_reducible assumption)) : Below w.heap.size w W:=h
end Go.Proofs.YtopfedbhkfdjkaaGreatDoor
