
/- Natural numbers as lists of words in base 10^9, the least word first: their values, the normal form, and what digit-wise addition, subtraction, multiplication and division come to. Plain lemmas: no program. -/
import Derived.Lib.ItoaMem
import Derived.Lib.ParseIntB
set_option linter.unusedVariables false
set_option linter.unusedSimpArgs false
namespace Go.Proofs.YtopfedbhkfdjkaaGreatDoor
def wB : Nat:=1000000000
theorem wB_eq : wB=1000000000:=rfl
theorem wB_pos : 0<wB:=by decide
def val : List Nat→Nat
 | []=>0
 | x :: xs=>x+wB * val xs
def Okw (l : List Nat) : Prop:=∀ x,x ∈ l→x<wB
theorem Okw.nil : Okw []:=fun _ h=>by cases h
theorem Okw.cons {x : Nat} {l : List Nat} (h : x<wB) (hl : Okw l) : Okw (x :: l):=fun y hy=>by
 rcases List.mem_cons.1 hy with rfl | hy
 ·exact h
 ·exact hl y hy
theorem Okw.head {x : Nat} {l : List Nat} (h : Okw (x :: l)) : x<wB:=h x (by simp)
theorem Okw.tail {x : Nat} {l : List Nat} (h : Okw (x :: l)) : Okw l:=fun y hy=>h y (List.mem_cons_of_mem _ hy)
theorem Okw.append {a b : List Nat} (ha : Okw a) (hb : Okw b) : Okw (a++b):=fun y hy=>by
 rcases List.mem_append.1 hy with h | h
 ·exact ha y h
 ·exact hb y h
theorem Okw.take {a : List Nat} (ha : Okw a) (k : Nat) : Okw (a.take k):=fun y hy=>ha y (List.mem_of_mem_take hy)
theorem Okw.drop {a : List Nat} (ha : Okw a) (k : Nat) : Okw (a.drop k):=fun y hy=>ha y (List.mem_of_mem_drop hy)
theorem Okw.get {a : List Nat} (ha : Okw a) (i : Nat) : a.getD i 0<wB:=by
 by_cases h : i<a.length
 ·rw [List.getD_eq_getElem?_getD,List.getElem?_eq_getElem h]
  exact ha _ (List.getElem_mem h)
 ·rw [List.getD_eq_getElem?_getD,List.getElem?_eq_none (by omega)]
  exact wB_pos
theorem Okw.set {a : List Nat} (ha : Okw a) (i x : Nat) (hx : x<wB) : Okw (a.set i x):=fun y hy=>by
 rcases List.mem_or_eq_of_mem_set hy with h | rfl
 ·exact ha y h
 ·exact hx
theorem Okw.replicate (n : Nat) : Okw (List.replicate n 0):=fun y hy=>by
 rw [(List.mem_replicate.1 hy).2]; exact wB_pos
theorem val_nil : val []=0:=rfl
theorem val_cons (x : Nat) (l : List Nat) : val (x :: l)=x+wB * val l:=rfl
theorem val_append (a b : List Nat) : val (a++b)=val a+wB ^ a.length * val b:=by
 induction a with
 | nil=>simp [val]
 | cons x a ih =>
  rw [List.cons_append,val_cons,val_cons,ih,List.length_cons,Nat.pow_succ,Nat.mul_add,← Nat.mul_assoc,Nat.mul_comm wB (wB ^ a.length)]
  omega
theorem val_lt {a : List Nat} (h : Okw a) : val a<wB ^ a.length:=by
 induction a with
 | nil=>simp [val]
 | cons x a ih =>
  rw [val_cons,List.length_cons,Nat.pow_succ]
  have h1:=ih h.tail
  have h2:=h.head
  have h3 : wB * (val a+1)≤wB * wB ^ a.length:=Nat.mul_le_mul_left _ h1
  rw [Nat.mul_add,Nat.mul_one] at h3
  rw [Nat.mul_comm (wB ^ a.length)]
  omega
theorem val_replicate (n : Nat) : val (List.replicate n 0)=0:=by
 induction n with
 | zero=>rfl
 | succ n ih=>rw [List.replicate_succ,val_cons,ih]; rfl
theorem val_snoc (a : List Nat) (x : Nat) : val (a++[x])=val a+wB ^ a.length * x:=by
 rw [val_append]; simp [val]
theorem val_take_succ (a : List Nat) (k : Nat) (h : k<a.length) : val (a.take (k+1))=val (a.take k)+wB ^ k * a.getD k 0:=by
 rw [List.take_succ_eq_append_getElem h,val_snoc,List.length_take,Nat.min_eq_left (by omega)]
 rw [List.getD_eq_getElem?_getD,List.getElem?_eq_getElem h]; rfl
theorem val_split (a : List Nat) (k : Nat) (h : k≤a.length) : val a=val (a.take k)+wB ^ k * val (a.drop k):=by
 have e:=val_append (a.take k) (a.drop k)
 rw [List.take_append_drop,List.length_take,Nat.min_eq_left h] at e
 exact e
def wds (n : Nat) : List Nat:=if h : n=0 then [] else n % wB :: wds (n / wB)
termination_by n
decreasing_by exact Nat.div_lt_self (by omega) (by decide)
theorem div_wB_lt {n : Nat} (h : n≠0) : n / wB<n:=Nat.div_lt_self (by omega) (by decide)
theorem wds_zero : wds 0=[]:=by rw [wds,dif_pos rfl]
theorem wds_pos {n : Nat} (h : n≠0) : wds n=n % wB :: wds (n / wB):=by rw [wds,dif_neg h]
theorem val_wds (n : Nat) : val (wds n)=n:=by
 induction n using Nat.strongRecOn with
 | _ n ih =>
  by_cases h : n=0
  ·rw [h,wds_zero]; rfl
  ·rw [wds_pos h,val_cons,ih _ (div_wB_lt h)]
   exact Nat.mod_add_div n wB
theorem okw_wds (n : Nat) : Okw (wds n):=by
 induction n using Nat.strongRecOn with
 | _ n ih =>
  by_cases h : n=0
  ·rw [h,wds_zero]; exact Okw.nil
  ·rw [wds_pos h]
   exact Okw.cons (Nat.mod_lt _ wB_pos) (ih _ (div_wB_lt h))
theorem wds_eq_nil {n : Nat} : wds n=[]↔n=0:=by
 constructor
 ·intro h
  have:=val_wds n
  rw [h] at this
  exact this.symm
 ·intro h; rw [h,wds_zero]
theorem wds_length_pos {n : Nat} : 0<(wds n).length↔0<n:=by
 rw [List.length_pos_iff]
 have:=@wds_eq_nil n
 constructor
 ·intro h; exact Nat.pos_of_ne_zero fun e=>h (this.2 e)
 ·intro h e; have:=this.1 e; omega
def Lnz (l : List Nat) : Prop:=l=[]∨l.getD (l.length - 1) 0≠0
theorem wds_of_lnz {l : List Nat} (ho : Okw l) (hl : Lnz l) : wds (val l)=l:=by
 induction l with
 | nil=>exact wds_zero
 | cons x l ih =>
  have hx:=ho.head
  have hl' : Lnz l:=by
   rcases hl with h | h
   ·cases h
   ·cases l with
    | nil=>exact .inl rfl
    | cons y l=>exact .inr (by simpa using h)
  have e:=ih ho.tail hl'
  have hv : val (x :: l)≠0:=by
   intro h0
   rw [val_cons] at h0
   have hv0 : val l=0:=by
    rcases Nat.eq_zero_or_pos (val l) with h | h
    ·exact h
    ·have : 0<wB * val l:=Nat.mul_pos wB_pos h
     omega
   rw [hv0,wds_zero] at e
   subst e
   rcases hl with h | h
   ·cases h
   ·simp at h; omega
  rw [wds_pos hv,val_cons,Nat.add_mul_mod_self_left,Nat.mod_eq_of_lt hx,Nat.add_mul_div_left _ _ wB_pos,Nat.div_eq_of_lt hx,Nat.zero_add,e]
theorem lnz_wds (n : Nat) : Lnz (wds n):=by
 induction n using Nat.strongRecOn with
 | _ n ih =>
  by_cases h : n=0
  ·rw [h,wds_zero]; exact .inl rfl
  ·rw [wds_pos h]
   rcases Nat.eq_zero_or_pos (n / wB) with h0 | h0
   ·rw [h0,wds_zero]
    refine .inr ?_
    have:=Nat.mod_add_div n wB
    rw [h0] at this
    simp; omega
   ·rcases ih _ (div_wB_lt h) with h1 | h1
    ·rw [wds_eq_nil] at h1; omega
    ·refine .inr ?_
     have hp : 0<(wds (n / wB)).length:=wds_length_pos.2 h0
     rw [List.length_cons,Nat.add_sub_cancel]
     rw [show (wds (n / wB)).length=(wds (n / wB)).length - 1+1 by omega,List.getD_cons_succ]
     exact h1
theorem val_take_zero {l : List Nat} {k : Nat} (hk : k≤l.length) (hz : ∀ j,k≤j→j<l.length→l.getD j 0=0) : val (l.take k)=val l:=by
 have e:=val_split l k hk
 have h0 : ∀ (r : List Nat),(∀ j,j<r.length→r.getD j 0=0)→val r=0:=by
  intro r
  induction r with
  | nil=>intro _; rfl
  | cons x r ih =>
   intro h
   have h1:=h 0 (by simp)
   rw [List.getD_cons_zero] at h1
   rw [val_cons,h1,ih (fun j hj=>by have:=h (j+1) (by simpa using hj); rwa [List.getD_cons_succ] at this)]
   rfl
 rw [h0 (l.drop k)] at e
 ·omega
 ·intro j hj
  rw [List.length_drop] at hj
  have:=hz (k+j) (by omega) (by omega)
  rw [List.getD_eq_getElem?_getD,List.getElem?_drop,← List.getD_eq_getElem?_getD]
  exact this
theorem take_eq_wds {l : List Nat} {k : Nat} (ho : Okw l) (hk : k≤l.length) (hz : ∀ j,k≤j→j<l.length→l.getD j 0=0) (hl : k=0∨l.getD (k - 1) 0≠0) :
  l.take k=wds (val l):=by
 rw [← val_take_zero hk hz]
 refine (wds_of_lnz (ho.take k) ?_).symm
 rcases hl with h | h
 ·exact .inl (by rw [h]; rfl)
 ·by_cases h0 : k=0
  ·exact .inl (by rw [h0]; rfl)
  ·refine .inr ?_
   rw [List.length_take,Nat.min_eq_left hk,List.getD_eq_getElem?_getD,List.getElem?_take_of_lt (by omega),← List.getD_eq_getElem?_getD]
   exact h
theorem wds_lt_pow {n k : Nat} (h : n<wB ^ k) : (wds n).length≤k:=by
 induction k generalizing n with
 | zero=>rw [Nat.pow_zero] at h; rw [show n=0 by omega,wds_zero]; simp
 | succ k ih =>
  by_cases h0 : n=0
  ·rw [h0,wds_zero]; simp
  ·rw [wds_pos h0,List.length_cons]
   have : n / wB<wB ^ k:=by
    rw [Nat.div_lt_iff_lt_mul wB_pos,← Nat.pow_succ]; exact h
   have:=ih this
   omega
theorem lt_wds_pow (n : Nat) : n<wB ^ (wds n).length:=by
 have:=val_lt (okw_wds n)
 rwa [val_wds] at this
theorem le_of_wds_length {n k : Nat} (h : k<(wds n).length) : wB ^ k≤n:=by
 rcases Nat.lt_or_ge n (wB ^ k) with h1 | h1
 ·have:=wds_lt_pow h1; omega
 ·exact h1
theorem wds_inj {a b : Nat} (h : wds a=wds b) : a=b:=by
 rw [← val_wds a,h,val_wds]
theorem wds_one_word {n : Nat} (h0 : n≠0) (h : n<wB) : wds n=[n]:=by
 rw [wds_pos h0,Nat.mod_eq_of_lt h,Nat.div_eq_of_lt h,wds_zero]
theorem wds_mono_length {a b : Nat} (h : a≤b) : (wds a).length≤(wds b).length :=
 wds_lt_pow (Nat.lt_of_le_of_lt h (lt_wds_pow b))
theorem val_lt_of_top {a b : List Nat} (ha : Okw a) (k : Nat) (hk : k<a.length) (hl : a.length=b.length)
  (ht : ∀ j,k<j→j<a.length→a.getD j 0=b.getD j 0) (h : a.getD k 0<b.getD k 0) : val a<val b:=by
 rw [val_split a (k+1) (by omega),val_split b (k+1) (by omega)]
 have e : a.drop (k+1)=b.drop (k+1):=by
  apply List.ext_getElem
  ·simp [hl]
  ·intro i h1 h2
   rw [List.length_drop] at h1
   have:=ht (k+1+i) (by omega) (by omega)
   rw [List.getD_eq_getElem?_getD,List.getElem?_eq_getElem (by omega),List.getD_eq_getElem?_getD,List.getElem?_eq_getElem (by omega)] at this
   simpa using this
 rw [e]
 have h1:=val_take_succ a k hk
 have h2:=val_take_succ b k (by omega)
 have h3:=val_lt (ha.take k)
 rw [List.length_take,Nat.min_eq_left (by omega)] at h3
 have h4 : wB ^ k * (a.getD k 0+1)≤wB ^ k * b.getD k 0:=Nat.mul_le_mul_left _ h
 rw [Nat.mul_add,Nat.mul_one] at h4
 omega
end Go.Proofs.YtopfedbhkfdjkaaGreatDoor


/- Decimal texts of natural numbers: which texts are numbers, their values, and how digits and words of nine digits hang together. Plain lemmas: no program. -/
namespace Go.Proofs.YtopfedbhkfdjkaaGreatDoor
open Go.Lib
def digs (l : List UInt8) : Bool:=l.all fun c=>decide (48≤c.toNat) && decide (c.toNat≤57)
def natOf (l : List UInt8) : Nat:=l.foldl (fun a c=>10 * a + (c.toNat - 48)) 0
def isNat (l : List UInt8) : Bool:=digs l && (l.length == 1 || (decide (1<l.length) && l.head? != some 48))
def dec (n : Nat) : ByteArray:=⟨(decDigits n).toArray⟩
theorem dec_toList (n : Nat) : (dec n).data.toList=decDigits n:=by simp [dec]
theorem ba_ext {a b : ByteArray} (h : a.data.toList=b.data.toList) : a=b:=by
 cases a with | mk a=>cases b with | mk b =>
 simp at h
 rw [h]
theorem decDigits_small {u : Nat} (h : u<10) : decDigits u=[UInt8.ofNat (48+u)]:=by rw [decDigits,dif_pos h]
theorem decDigits_big {u : Nat} (h : ¬ u<10) : decDigits u=decDigits (u / 10)++[UInt8.ofNat (48+u % 10)]:=by rw [decDigits,dif_neg h]
theorem decDigits_ne (u : Nat) : decDigits u≠[]:=by
 by_cases h : u<10
 ·rw [decDigits_small h]; simp
 ·rw [decDigits_big h]; simp
theorem digit_toNat {d : Nat} (h : d<10) : (UInt8.ofNat (48+d)).toNat=48+d:=by
 simp [UInt8.toNat_ofNat']; omega
theorem natOf_snoc (l : List UInt8) (c : UInt8) : natOf (l++[c])=10 * natOf l + (c.toNat - 48):=by
 unfold natOf; rw [List.foldl_append]; rfl
theorem natOf_foldl (l : List UInt8) (a : Nat) : l.foldl (fun a c=>10 * a + (c.toNat - 48)) a=a * 10 ^ l.length+natOf l:=by
 induction l generalizing a with
 | nil=>simp [natOf]
 | cons c l ih =>
  have e : natOf (c :: l)=(c.toNat - 48) * 10 ^ l.length+natOf l:=by
   show (c :: l).foldl _ 0=_
   rw [List.foldl_cons,ih,Nat.mul_zero,Nat.zero_add]
  have e2 : a * (10 ^ l.length * 10)=10 * a * 10 ^ l.length:=by rw [Nat.mul_comm (10 ^ l.length) 10,← Nat.mul_assoc,Nat.mul_comm a 10]
  rw [List.foldl_cons,ih,e,List.length_cons,Nat.pow_succ,e2,Nat.add_mul]
  omega
theorem natOf_append (a b : List UInt8) : natOf (a++b)=natOf a * 10 ^ b.length+natOf b:=by
 show (a++b).foldl _ 0=_
 rw [List.foldl_append,natOf_foldl]; rfl
theorem natOf_nil : natOf []=0:=rfl
theorem natOf_one (c : UInt8) : natOf [c]=c.toNat - 48:=by simp [natOf]
theorem natOf_cons (c : UInt8) (l : List UInt8) : natOf (c :: l)=(c.toNat - 48) * 10 ^ l.length+natOf l:=by
 have:=natOf_append [c] l
 rwa [natOf_one] at this
theorem digs_append (a b : List UInt8) : digs (a++b)=(digs a && digs b):=by simp [digs]
theorem digs_cons (c : UInt8) (l : List UInt8) : digs (c :: l)=(decide (48≤c.toNat) && decide (c.toNat≤57) && digs l):=by simp [digs]
theorem natOf_lt {l : List UInt8} (h : digs l=true) : natOf l<10 ^ l.length:=by
 induction l with
 | nil=>simp [natOf]
 | cons c l ih =>
  rw [digs_cons] at h
  simp only [Bool.and_eq_true,decide_eq_true_eq] at h
  have:=ih h.2
  rw [natOf_cons,List.length_cons,Nat.pow_succ]
  have h2 : (c.toNat - 48) * 10 ^ l.length≤9 * 10 ^ l.length:=Nat.mul_le_mul_right _ (by omega)
  omega
theorem digs_take {l : List UInt8} (h : digs l=true) (k : Nat) : digs (l.take k)=true:=by
 rw [digs,List.all_eq_true] at *
 exact fun x hx=>h x (List.mem_of_mem_take hx)
theorem digs_drop {l : List UInt8} (h : digs l=true) (k : Nat) : digs (l.drop k)=true:=by
 rw [digs,List.all_eq_true] at *
 exact fun x hx=>h x (List.mem_of_mem_drop hx)
theorem digs_decDigits (n : Nat) : digs (decDigits n)=true:=by
 induction n using Nat.strongRecOn with
 | _ n ih =>
  by_cases h : n<10
  ·rw [decDigits_small h,digs_cons,digit_toNat h]
   simp [digs]; omega
  ·rw [decDigits_big h,digs_append,ih _ (by omega),digs_cons,digit_toNat (by omega)]
   simp [digs]; omega
theorem natOf_decDigits (n : Nat) : natOf (decDigits n)=n:=by
 induction n using Nat.strongRecOn with
 | _ n ih =>
  by_cases h : n<10
  ·rw [decDigits_small h,natOf_one,digit_toNat h]; omega
  ·rw [decDigits_big h,natOf_snoc,ih _ (by omega),digit_toNat (by omega)]; omega
theorem head_decDigits {n : Nat} (h : n≠0) : (decDigits n).head?≠some 48:=by
 induction n using Nat.strongRecOn with
 | _ n ih =>
  by_cases h1 : n<10
  ·rw [decDigits_small h1]
   intro he
   simp only [List.head?_cons,Option.some.injEq] at he
   have:=congrArg UInt8.toNat he
   rw [digit_toNat h1] at this
   simp at this; omega
  ·rw [decDigits_big h1]
   have:=ih (n / 10) (by omega) (by omega)
   cases hd : decDigits (n / 10) with
   | nil=>exact absurd hd (decDigits_ne _)
   | cons x r=>rw [hd] at this; simpa using this
theorem isNat_decDigits (n : Nat) : isNat (decDigits n)=true:=by
 unfold isNat
 rw [digs_decDigits]
 by_cases h : n<10
 ·rw [decDigits_small h]; rfl
 ·have h1:=head_decDigits (n:=n) (by omega)
  have h2 : 1<(decDigits n).length:=by
   rw [decDigits_big h,List.length_append]
   have:=List.length_pos_iff.2 (decDigits_ne (n / 10))
   simp; omega
  simp [h2,h1]
theorem isNat_digs {l : List UInt8} (h : isNat l=true) : digs l=true:=by
 unfold isNat at h
 rw [Bool.and_eq_true] at h
 exact h.1
theorem isNat_ne {l : List UInt8} (h : isNat l=true) : l≠[]:=by
 rintro rfl
 simp [isNat] at h
theorem decDigits_natOf_aux (k : Nat) : ∀ l : List UInt8,l.length=k→isNat l=true→decDigits (natOf l)=l:=by
 induction k with
 | zero=>intro l hl h; exact absurd (List.length_eq_zero_iff.1 hl) (isNat_ne h)
 | succ k ih =>
  intro l hl h
  have hd:=isNat_digs h
  obtain ⟨p,c,rfl⟩ : ∃ p c,l=p++[c]:=⟨l.dropLast,l.getLast (isNat_ne h),(List.dropLast_concat_getLast _).symm⟩
  rw [List.length_append,List.length_singleton] at hl
  have hd':=hd
  rw [digs_append,digs_cons] at hd
  simp only [Bool.and_eq_true,decide_eq_true_eq] at hd
  obtain ⟨hp,⟨hc1,hc2⟩,_⟩:=hd
  rw [natOf_snoc]
  by_cases hp0 : p=[]
  ·subst hp0
   rw [natOf_nil,decDigits_small (by omega),Nat.mul_zero,Nat.zero_add,show 48 + (c.toNat - 48)=c.toNat by omega]
   simp
  ·have hh : p.head?≠some 48:=by
    unfold isNat at h
    simp only [Bool.and_eq_true,Bool.or_eq_true,beq_iff_eq,bne_iff_ne,decide_eq_true_eq] at h
    have hlp:=List.length_pos_iff.2 hp0
    rcases h.2 with h1 | h1
    ·rw [List.length_append,List.length_singleton] at h1; omega
    ·cases p with
     | nil=>exact absurd rfl hp0
     | cons x r=>simpa using h1.2
   have hpn : isNat p=true:=by
    unfold isNat
    rw [hp]
    have hlp:=List.length_pos_iff.2 hp0
    by_cases h1 : p.length=1
    ·simp [h1]
    ·have : 1<p.length:=by omega
     simp [this,hh]
   have e:=ih p (by omega) hpn
   have h0 : natOf p≠0:=by
    intro h0
    rw [h0,decDigits_small (by omega)] at e
    rw [← e] at hh
    exact hh (by simp)
   rw [decDigits_big (by omega),show (10 * natOf p + (c.toNat - 48)) / 10=natOf p by omega,e,show 48 + (10 * natOf p + (c.toNat - 48)) % 10=c.toNat by omega]
   simp
theorem decDigits_natOf {l : List UInt8} (h : isNat l=true) : decDigits (natOf l)=l:=decDigits_natOf_aux _ l rfl h
theorem decDigits_inj {a b : Nat} (h : decDigits a=decDigits b) : a=b:=by rw [← natOf_decDigits a,h,natOf_decDigits]
theorem dec_inj {a b : Nat} (h : dec a=dec b) : a=b:=by
 refine decDigits_inj ?_
 rw [← dec_toList,h,dec_toList]
theorem dec_size (n : Nat) : (dec n).size=nDigits n:=by
 rw [← decDigits_length]; simp [dec,ByteArray.size]
theorem dec_zero : dec 0=⟨#[48]⟩:=by
 refine ba_ext ?_
 rw [dec_toList,decDigits_small (by omega)]; rfl
theorem dec_one : dec 1=⟨#[49]⟩:=by
 refine ba_ext ?_
 rw [dec_toList,decDigits_small (by omega)]; rfl
theorem dec_eq_zero (n : Nat) : (dec n=⟨#[48]⟩)↔n=0:=by
 rw [← dec_zero]
 exact ⟨dec_inj,fun h=>by rw [h]⟩
/-! ### Words of nine digits -/
def padk : Nat→Nat→List UInt8
 | 0,_=>[]
 | k+1,w=>padk k (w / 10)++[UInt8.ofNat (48+w % 10)]
theorem padk_length (k w : Nat) : (padk k w).length=k:=by
 induction k generalizing w with
 | zero=>rfl
 | succ k ih=>rw [padk,List.length_append,ih]; rfl
theorem decDigits_pad (k m w : Nat) (hm : m≠0) (hw : w<10 ^ k) : decDigits (m * 10 ^ k+w)=decDigits m++padk k w:=by
 induction k generalizing w with
 | zero =>
  rw [Nat.pow_zero] at hw
  rw [show w=0 by omega]; simp [padk]
 | succ k ih =>
  rw [Nat.pow_succ] at hw
  have hp : 1≤10 ^ k:=Nat.one_le_pow _ _ (by decide)
  have h1 : 10 ^ k≤m * 10 ^ k:=Nat.le_mul_of_pos_left _ (by omega)
  have e : m * 10 ^ (k+1)=10 * (m * 10 ^ k):=by rw [Nat.pow_succ,Nat.mul_comm (10 ^ k) 10,← Nat.mul_assoc,Nat.mul_comm m 10,Nat.mul_assoc]
  rw [decDigits_big (by omega),e,show (10 * (m * 10 ^ k)+w) / 10=m * 10 ^ k+w / 10 by omega,ih _ (by omega),padk,List.append_assoc,show (10 * (m * 10 ^ k)+w) % 10=w % 10 by omega]
theorem padk_eq (k w : Nat) (hk : 0<k) (hw : w<10 ^ k) : padk k w=List.replicate (k - (decDigits w).length) 48++decDigits w:=by
 induction k generalizing w with
 | zero=>omega
 | succ k ih =>
  rw [padk]
  by_cases h : w<10
  ·rw [decDigits_small h]
   have h0 : ∀ j,padk j 0=List.replicate j 48:=by
    intro j
    induction j with
    | zero=>rfl
    | succ j ihj=>rw [padk,Nat.zero_div,ihj,List.replicate_succ']; rfl
   rw [show w / 10=0 by omega,h0,List.length_singleton,Nat.add_sub_cancel,show w % 10=w by omega]
  ·rw [Nat.pow_succ] at hw
   have hk : 0<k:=by
    rcases Nat.eq_zero_or_pos k with rfl | hk
    ·rw [Nat.pow_zero] at hw; omega
    ·exact hk
   rw [ih _ hk (by omega),decDigits_big h,List.length_append,List.length_singleton,List.append_assoc]
   rw [show k+1 - ((decDigits (w / 10)).length+1)=k - (decDigits (w / 10)).length by omega]
theorem wB_pow : wB=10 ^ 9:=by decide
theorem parse_chunk (B : Nat) (hB : 32≤B) : ∀ (l : List UInt8) (acc : Nat),digs l=true→acc * 10 ^ l.length+natOf l<10 ^ 9 →
  parseUintM (2 ^ B - 1) acc l=.ok (acc * 10 ^ l.length+natOf l)
 | [],acc,_,_=>by simp [parseUintM,natOf]
 | c :: l,acc,hd,hlt=>by
  rw [digs_cons] at hd
  simp only [Bool.and_eq_true,decide_eq_true_eq] at hd
  rw [natOf_cons,List.length_cons,Nat.pow_succ] at hlt
  have e : acc * (10 ^ l.length * 10)=10 * acc * 10 ^ l.length:=by rw [Nat.mul_comm (10 ^ l.length) 10,← Nat.mul_assoc,Nat.mul_comm acc 10]
  rw [e,← Nat.add_assoc,← Nat.add_mul] at hlt
  have hp : 1≤10 ^ l.length:=Nat.one_le_pow _ _ (by decide)
  have h1 : acc * 10 + (c.toNat - 48)<10 ^ 9:=by
   have : (10 * acc + (c.toNat - 48)) * 1≤(10 * acc + (c.toNat - 48)) * 10 ^ l.length:=Nat.mul_le_mul_left _ hp
   omega
  have h2 : (2 : Nat) ^ 32≤2 ^ B:=Nat.pow_le_pow_right (by decide) hB
  rw [parseUintM,if_pos hd.1,if_neg (by omega),if_neg (by omega),parse_chunk B hB l _ hd.2 (by rw [Nat.mul_comm acc 10]; omega)]
  congr 1
  rw [natOf_cons,List.length_cons,Nat.pow_succ,e,← Nat.add_assoc,← Nat.add_mul,Nat.mul_comm acc 10]
theorem parse_word {l : List UInt8} (hd : digs l=true) (h0 : l≠[]) (h9 : l.length≤9) (B : Nat) (hB : 32≤B) : parseUintB B l=.ok (natOf l):=by
 unfold parseUintB
 rw [if_neg h0,parse_chunk B hB l 0 hd]
 ·simp
 ·have:=natOf_lt hd
  have : 10 ^ l.length≤10 ^ 9:=Nat.pow_le_pow_right (by decide) h9
  omega
end Go.Proofs.YtopfedbhkfdjkaaGreatDoor


/- The long division of lists of words: the guess of a word of the quotient, the product that is taken away, the divisor that is added back. Plain lemmas: no program. -/
namespace Go.Proofs.YtopfedbhkfdjkaaGreatDoor
/-! ### The guess: R = ((u1 B + u2) B + u3) P + low is divided by V = (v1 B + v2) P + vl -/
structure Kn (q B P T u1 u2 u3 v1 v2 vl low R V : Nat) : Prop where
 hP : 0<P
 hT : T=u1 * B+u2
 hR : R=(T * B+u3) * P+low
 hV : V=(v1 * B+v2) * P+vl
 hlow : low<P
 hvl : vl<P
 h1 : u1<B
 h2 : u2<B
 h3 : u3<B
 g1 : v1<B
 g2 : v2<B
 half : B≤2 * v1
 hq1 : q * V≤R
 hq2 : R<(q+1) * V
 hRV : R<B * V
section
variable {q B P T u1 u2 u3 v1 v2 vl low R V : Nat}
theorem Kn.R_lt (h : Kn q B P T u1 u2 u3 v1 v2 vl low R V) : R<(T * B+u3+1) * P:=by
 have:=h.hlow
 rw [h.hR,Nat.add_mul _ 1,Nat.one_mul]
 omega
theorem Kn.u1_le (h : Kn q B P T u1 u2 u3 v1 v2 vl low R V) : u1≤v1:=by
 have e1 : u1 * B * B * P≤R:=by
  rw [h.hR,h.hT]
  have : u1 * B * B * P≤((u1 * B+u2) * B+u3) * P:=Nat.mul_le_mul_right _ (by rw [Nat.add_mul]; omega)
  omega
 have e2 : B * V<(v1+1) * B * B * P:=by
  have e3 : V<(v1+1) * B * P:=by
   have e4 : (v1 * B+v2+1) * P≤(v1+1) * B * P:=Nat.mul_le_mul_right _ (by have:=h.g2; rw [Nat.add_mul,Nat.one_mul]; omega)
   have e5 : V<(v1 * B+v2+1) * P:=by
    have:=h.hvl
    rw [h.hV,Nat.add_mul _ 1,Nat.one_mul]
    omega
   omega
  have hB : 0<B:=by have:=h.g1; omega
  have:=(Nat.mul_lt_mul_left hB).2 e3
  have e6 : B * ((v1+1) * B * P)=(v1+1) * B * B * P:=by ac_rfl
  omega
 have e7:=h.hRV
 have e8 : u1 * (B * B * P)<(v1+1) * (B * B * P):=by
  have a1 : u1 * (B * B * P)=u1 * B * B * P:=by ac_rfl
  have a2 : (v1+1) * (B * B * P)=(v1+1) * B * B * P:=by ac_rfl
  omega
 have:=Nat.lt_of_mul_lt_mul_right e8
 omega
theorem Kn.T_le (h : Kn q B P T u1 u2 u3 v1 v2 vl low R V) : T≤v1 * B+B - 1:=by
 have e:=h.u1_le
 have e1 : u1 * B≤v1 * B:=Nat.mul_le_mul_right _ e
 have:=h.h2
 rw [h.hT]
 omega
theorem Kn.q_lt (h : Kn q B P T u1 u2 u3 v1 v2 vl low R V) : q<B:=by
 have:=Nat.lt_of_le_of_lt h.hq1 h.hRV
 exact Nat.lt_of_mul_lt_mul_right this
theorem Kn.start (h : Kn q B P T u1 u2 u3 v1 v2 vl low R V) : q≤T / v1∧T / v1≤B+1∧T / v1 * v1+T % v1=T∧T % v1<B:=by
 have hv : 0<v1:=by have:=h.half; have:=h.g1; omega
 refine ⟨?_, ?_,by rw [Nat.mul_comm]; exact Nat.div_add_mod T v1,Nat.lt_trans (Nat.mod_lt _ hv) h.g1⟩
 ·rw [Nat.le_div_iff_mul_le hv]
  have e1 : q * v1 * (B * P)≤q * V:=by
   rw [h.hV,show q * v1 * (B * P)=q * (v1 * B * P) by ac_rfl]
   refine Nat.mul_le_mul_left _ ?_
   have : v1 * B * P≤(v1 * B+v2) * P:=Nat.mul_le_mul_right _ (by omega)
   omega
  have e2 : R<(T+1) * (B * P):=by
   refine Nat.lt_of_lt_of_le h.R_lt ?_
   rw [← Nat.mul_assoc]
   refine Nat.mul_le_mul_right _ ?_
   have:=h.h3
   rw [Nat.add_mul,Nat.one_mul]
   omega
  have e3 : q * v1 * (B * P)<(T+1) * (B * P):=Nat.lt_of_le_of_lt (Nat.le_trans e1 h.hq1) e2
  have:=Nat.lt_of_mul_lt_mul_right e3
  omega
 ·have : T / v1<B+2:=by
   rw [Nat.div_lt_iff_lt_mul hv,Nat.add_mul]
   have e1:=h.T_le
   have e2:=h.half
   have e3 : B * v1=v1 * B:=Nat.mul_comm _ _
   have:=h.g1
   omega
  omega
theorem Kn.over {g r : Nat} (h : Kn q B P T u1 u2 u3 v1 v2 vl low R V) (he : g * v1+r=T) (ht : B≤g∨r * B+u3<g * v2) : q<g:=by
 rcases ht with ht | ht
 ·exact Nat.lt_of_lt_of_le h.q_lt ht
 ·rcases Nat.lt_or_ge q g with hl | hl
  ·exact hl
  ·exfalso
   have e1 : g * V≤R:=Nat.le_trans (Nat.mul_le_mul_right _ hl) h.hq1
   have e2 : (T * B+u3+1) * P≤g * V:=by
    rw [h.hV,Nat.mul_add,← Nat.mul_assoc]
    have e3 : T * B+u3+1≤g * (v1 * B+v2):=by
     rw [Nat.mul_add,← Nat.mul_assoc,← he,Nat.add_mul]
     omega
    have:=Nat.mul_le_mul_right P e3
    omega
   have:=h.R_lt
   omega
theorem Kn.close {g : Nat} (h : Kn q B P T u1 u2 u3 v1 v2 vl low R V) (hg : g≤B) (he : g * (v1 * B+v2)≤T * B+u3) : g≤q+1:=by
 have e1 : g * V<R+V:=by
  have e2 : g * V=g * (v1 * B+v2) * P+g * vl:=by rw [h.hV,Nat.mul_add,← Nat.mul_assoc]
  have e3 : g * (v1 * B+v2) * P≤(T * B+u3) * P:=Nat.mul_le_mul_right _ he
  have e4 : g * vl≤B * (P - 1):=Nat.mul_le_mul hg (by have:=h.hvl; omega)
  have e5 : B * (P - 1)+B=B * P:=by
   have:=h.hP
   rw [← Nat.mul_succ]; congr 1; omega
  have e6 : B * P≤V:=by
   rw [h.hV]
   have : B * P≤(v1 * B+v2) * P:=Nat.mul_le_mul_right _ (by
    have:=h.half
    have:=h.g1
    have : 1 * B≤v1 * B:=Nat.mul_le_mul_right _ (by omega)
    omega)
   omega
  have e7 : (T * B+u3) * P≤R:=by rw [h.hR]; omega
  have hB : 0<B:=by have:=h.g1; omega
  omega
 have e2:=h.hq2
 have e3 : g * V<(q+2) * V:=by
  rw [show (q+2) * V=(q+1) * V+V by rw [Nat.add_mul,Nat.add_mul,Nat.one_mul]; omega]
  omega
 have:=Nat.lt_of_mul_lt_mul_right e3
 omega
theorem Kn.done {g r : Nat} (h : Kn q B P T u1 u2 u3 v1 v2 vl low R V) (he : g * v1+r=T) (hg : g<B) (ht : g * v2≤r * B+u3) : g≤q+1:=by
 refine h.close (by omega) ?_
 rw [Nat.mul_add,← Nat.mul_assoc,← he,Nat.add_mul]
 omega
theorem Kn.out {g r : Nat} (h : Kn q B P T u1 u2 u3 v1 v2 vl low R V) (he : g * v1+r=T) (hg : g≤B) (hr : B≤r) : g≤q+1∧g<B:=by
 constructor
 ·refine h.close hg ?_
  have e1 : g * v2≤B * B:=Nat.mul_le_mul hg (by have:=h.g2; omega)
  have e2 : B * B≤r * B:=Nat.mul_le_mul_right _ hr
  rw [Nat.mul_add,← Nat.mul_assoc,← he,Nat.add_mul]
  omega
 ·rcases Nat.lt_or_ge g B with hl | hl
  ·exact hl
  ·exfalso
   have e0 : g=B:=by omega
   subst e0
   have e1:=h.T_le
   have e2 : g * v1=v1 * g:=Nat.mul_comm _ _
   have:=h.g1
   omega
end
end Go.Proofs.YtopfedbhkfdjkaaGreatDoor


/- Lists of words in a long division: what one step takes away and puts back, and what holds from step to step. Plain lemmas: no program. -/
namespace Go.Proofs.YtopfedbhkfdjkaaGreatDoor
def wd (l : List Nat) (i : Nat) : Nat:=l.getD i 0
theorem val_set {l : List Nat} {j : Nat} (h : j<l.length) (y : Nat) : val (l.set j y)+wB ^ j * wd l j=val l+wB ^ j * y:=by
 induction l generalizing j with
 | nil=>simp at h
 | cons x l ih =>
  cases j with
  | zero =>
   simp only [List.set_cons_zero,val_cons,Nat.pow_zero,Nat.one_mul,wd,List.getD_cons_zero]
   omega
  | succ j =>
   have:=ih (j:=j) (by simpa using h)
   simp only [List.set_cons_succ,val_cons,wd,List.getD_cons_succ,Nat.pow_succ] at this ⊢
   have e1 : wB ^ j * wB * l.getD j 0=wB * (wB ^ j * l.getD j 0):=by rw [Nat.mul_comm (wB ^ j) wB,Nat.mul_assoc]
   have e2 : wB ^ j * wB * y=wB * (wB ^ j * y):=by rw [Nat.mul_comm (wB ^ j) wB,Nat.mul_assoc]
   rw [e1,e2,show x+wB * val (l.set j y)+wB * (wB ^ j * l.getD j 0)=x+wB * (val (l.set j y)+wB ^ j * l.getD j 0) by rw [Nat.mul_add]; omega,this,Nat.mul_add]
   omega
theorem wd_set {l : List Nat} {j : Nat} (h : j<l.length) (y i : Nat) : wd (l.set j y) i=if i=j then y else wd l i:=by
 unfold wd
 rw [List.getD_eq_getElem?_getD,List.getElem?_set]
 by_cases e : j=i
 ·subst e; simp [h]
 ·rw [if_neg e,if_neg (fun e'=>e e'.symm),← List.getD_eq_getElem?_getD]
theorem wd_out {l : List Nat} {j : Nat} (h : ¬ j<l.length) : wd l j=0:=by
 rw [wd,List.getD_eq_getElem?_getD,List.getElem?_eq_none (by omega)]; rfl
theorem drop_wd {l : List Nat} {k : Nat} (h : k<l.length) : l.drop k=wd l k :: l.drop (k+1):=by
 rw [List.drop_eq_getElem_cons h,wd,List.getD_eq_getElem?_getD,List.getElem?_eq_getElem h]; rfl
theorem drop_set_same (l : List Nat) (k y : Nat) : (l.set k y).drop (k+1)=l.drop (k+1):=by
 rw [List.drop_set_of_lt (by omega)]
theorem wd_drop (l : List Nat) (k i : Nat) : wd (l.drop k) i=wd l (k+i):=by
 unfold wd
 rw [List.getD_eq_getElem?_getD,List.getElem?_drop,← List.getD_eq_getElem?_getD]
theorem Okw.wd {l : List Nat} (h : Okw l) (i : Nat) : wd l i<wB:=h.get i
def preN (l : List Nat) (j : Nat) : Nat:=val (l.take j)
theorem preN_zero (l : List Nat) : preN l 0=0:=rfl
theorem preN_all {l : List Nat} {j : Nat} (h : l.length≤j) : preN l j=val l:=by rw [preN,List.take_of_length_le h]
theorem preN_succ {l : List Nat} {j : Nat} (h : j<l.length) : preN l (j+1)=preN l j+wB ^ j * wd l j:=by
 rw [preN,preN,val_take_succ l j h,wd]
theorem preN_congr {a b : List Nat} {j : Nat} (h : ∀ i,i<j→wd a i=wd b i) (ha : j≤a.length) (hb : j≤b.length) : preN a j=preN b j:=by
 induction j with
 | zero=>rfl
 | succ j ih=>rw [preN_succ (by omega),preN_succ (by omega),ih (fun i hi=>h i (by omega)) (by omega) (by omega),h j (by omega)]
theorem wd_zero_of_lt {l : List Nat} {k i : Nat} (h : val l<wB ^ k) (hi : k≤i) : wd l i=0:=by
 by_cases hl : i<l.length
 ·have e:=val_split l i (by omega)
  rw [drop_wd hl,val_cons] at e
  rcases Nat.eq_zero_or_pos (wd l i) with h0 | h0
  ·exact h0
  ·exfalso
   have e1 : wB ^ i * 1≤wB ^ i * (wd l i+wB * val (l.drop (i+1))):=Nat.mul_le_mul_left _ (by omega)
   have e2 : wB ^ k≤wB ^ i:=Nat.pow_le_pow_right wB_pos hi
   omega
 ·exact wd_out hl
theorem val_of_zero {l : List Nat} {k : Nat} (hz : ∀ i,k≤i→wd l i=0) (hk : k≤l.length) : val l=preN l k:=by
 rw [preN]
 exact (val_take_zero hk fun j h1 _=>hz j h1).symm
/-! ### The product is taken away -/
def Msub (l0 v : List Nat) (j g i : Nat) (l : List Nat) (c b : Nat) : Prop :=
 l.length=l0.length∧Okw l∧c<wB∧b≤1∧(val l : Int)=val l0 - (wB : Int) ^ j * (g * preN v i) + (wB : Int) ^ (j+i) * (c+b)∧∀ t,t<j∨j+i≤t→wd l t=wd l0 t
theorem msub_start {l0 : List Nat} (v : List Nat) (j g : Nat) (h : Okw l0) : Msub l0 v j g 0 l0 0 0 :=
 ⟨rfl,h,wB_pos,by omega,by rw [preN_zero]; simp,fun _ _=>rfl⟩
theorem msub_next {l0 v l : List Nat} {j g i c b : Nat} (h : Msub l0 v j g i l c b) (hv : Okw v) (hg : g≤1000000000) (hi : i<v.length) (hj : j+i<l0.length)
  {p d d' b' : Int} (hp : p=g * wd v i+c) (hd : d=wd l (i+j) - p % 1000000000 - b) (hd' : (d<0∧d'=d+1000000000∧b'=1)∨(0≤d∧d'=d∧b'=0)) :
  Msub l0 v j g (i+1) (l.set (i+j) d'.toNat) (p / 1000000000).toNat b'.toNat∧0≤d'∧d'≤999999999∧0≤p / 1000000000∧p / 1000000000≤999999999∧0≤p:=by
 obtain ⟨h1,h2,h3,h4,h5,h6⟩:=h
 have hv1:=hv.wd i
 have hl1:=h2.wd (i+j)
 rw [wB_eq] at hv1 hl1 h3
 have hgv : g * wd v i≤1000000000 * 999999999:=Nat.mul_le_mul hg (by omega)
 have hgvI : (g : Int) * wd v i=((g * wd v i : Nat) : Int):=by rw [Int.natCast_mul]
 have hp0 : 0≤p∧p≤999999999999999999:=by rw [hp,hgvI]; omega
 have hc' : 0≤p / 1000000000∧p / 1000000000≤999999999:=by omega
 have hdr : 0≤d'∧d'≤999999999:=by omega
 refine ⟨⟨by rw [List.length_set]; exact h1,h2.set _ _ (by rw [wB_eq]; omega),by rw [wB_eq]; omega,by omega, ?_,fun t ht=>?_⟩,hdr.1,hdr.2,hc'.1,hc'.2,hp0.1⟩
 ·have e:=val_set (l:=l) (j:=i+j) (by omega) d'.toNat
  have e' : (val (l.set (i+j) d'.toNat) : Int) + (wB : Int) ^ (i+j) * wd l (i+j)=val l + (wB : Int) ^ (i+j) * d':=by
   have:=congrArg (Nat.cast : Nat→Int) e
   push_cast at this
   rwa [Int.toNat_of_nonneg hdr.1] at this
  rw [preN_succ hi]
  push_cast
  rw [Int.toNat_of_nonneg hc'.1,Int.toNat_of_nonneg (by omega : 0≤b')]
  rw [Nat.add_comm j i] at h5
  rw [show j + (i+1)=(i+j)+1 by omega,Int.pow_succ]
  rw [h5] at e'
  have hpp : (wB : Int) ^ j * ((g : Int) * ((wB : Int) ^ i * wd v i))=(wB : Int) ^ (i+j) * (g * wd v i):=by
   rw [Int.pow_add]; ac_rfl
  rw [Int.mul_add (g : Int),Int.mul_add ((wB : Int) ^ j),hpp]
  have hgc : (g : Int) * wd v i=p - c:=by omega
  rw [hgc]
  have hw : ((wB : Nat) : Int)=1000000000:=rfl
  generalize (wB : Int) ^ (i+j)=X at *
  generalize (wB : Int) ^ j * (g * preN v i)=Y at *
  rw [hw]
  have key : d' - wd l (i+j) = - (p % 1000000000) - b+1000000000 * b':=by omega
  have hpd : p=p % 1000000000+1000000000 * (p / 1000000000):=by omega
  have e3 : X * d'=X * wd l (i+j)+X * (d' - wd l (i+j)):=by rw [← Int.mul_add]; congr 1; omega
  rw [key] at e3
  have e4 : X * (-(p % 1000000000) - b+1000000000 * b') = -(X * (p % 1000000000)) - X * b+X * (1000000000 * b'):=by
   rw [Int.mul_add,Int.mul_sub,Int.mul_neg]
  have e5 : X * (p - c)=X * (p % 1000000000)+X * (1000000000 * (p / 1000000000)) - X * c:=by
   rw [← Int.mul_add,← hpd,Int.mul_sub]
  have e6 : X * 1000000000 * (p / 1000000000+b')=X * (1000000000 * (p / 1000000000))+X * (1000000000 * b'):=by
   rw [Int.mul_add,Int.mul_assoc,Int.mul_assoc]
  have e7 : X * ((c : Int)+b)=X * c+X * b:=Int.mul_add _ _ _
  omega
 ·rw [wd_set (by omega),if_neg (by omega)]
  exact h6 t (by omega)
/-! ### The divisor is added back -/
def Madd (l0 v : List Nat) (j i : Nat) (l : List Nat) (c : Nat) : Prop :=
 l.length=l0.length∧Okw l∧c≤1∧val l+wB ^ (j+i) * c=val l0+wB ^ j * preN v i∧∀ t,t<j∨j+i≤t→wd l t=wd l0 t
theorem madd_start {l0 : List Nat} (v : List Nat) (j : Nat) (h : Okw l0) : Madd l0 v j 0 l0 0 :=
 ⟨rfl,h,by omega,by rw [preN_zero]; simp,fun _ _=>rfl⟩
theorem madd_next {l0 v l : List Nat} {j i c s : Nat} (h : Madd l0 v j i l c) (hv : Okw v) (hi : i<v.length) (hj : j+i<l0.length) (hs : s=c + (wd l (i+j)+wd v i)) :
  Madd l0 v j (i+1) (l.set (i+j) (s % wB)) (s / wB)∧s≤1999999999:=by
 obtain ⟨h1,h2,h3,h4,h5⟩:=h
 have hv1:=hv.wd i
 have hl1:=h2.wd (i+j)
 rw [wB_eq] at hv1 hl1
 have hs1 : s≤1999999999:=by omega
 refine ⟨⟨by rw [List.length_set]; exact h1,h2.set _ _ (Nat.mod_lt _ wB_pos),by rw [wB_eq]; omega, ?_,fun t ht=>?_⟩,hs1⟩
 ·have e:=val_set (l:=l) (j:=i+j) (by omega) (s % wB)
  rw [Nat.add_comm j i] at h4
  have e1 : wB ^ j * (wB ^ i * wd v i)=wB ^ (i+j) * wd v i:=by rw [Nat.pow_add]; ac_rfl
  have e2 : wB ^ (i+j) * wB * (s / wB)=wB ^ (i+j) * (wB * (s / wB)):=Nat.mul_assoc _ _ _
  have e3 : wB ^ (i+j) * (s % wB)+wB ^ (i+j) * (wB * (s / wB))=wB ^ (i+j) * s:=by rw [← Nat.mul_add,Nat.mod_add_div]
  have e4 : wB ^ (i+j) * s=wB ^ (i+j) * c+wB ^ (i+j) * wd l (i+j)+wB ^ (i+j) * wd v i:=by rw [hs,Nat.mul_add,Nat.mul_add,Nat.add_assoc]
  rw [show j + (i+1)=(i+j)+1 by omega,Nat.pow_succ,e2,preN_succ hi,Nat.mul_add,e1]
  omega
 ·rw [wd_set (by omega),if_neg (by omega)]
  exact h5 t (by omega)
end Go.Proofs.YtopfedbhkfdjkaaGreatDoor


/- Lists of words in a long division: from one word of the quotient to the next. Plain lemmas: no program. -/
namespace Go.Proofs.YtopfedbhkfdjkaaGreatDoor
def Dv (U V Lu Lq t : Nat) (l qs : List Nat) : Prop :=
 l.length=Lu∧Okw l∧qs.length=Lq∧Okw qs∧val (l.drop t)<V∧val l+V * wB ^ t * val (qs.drop t)=U
def win (l : List Nat) (j k : Nat) : Nat:=preN (l.drop j) k
theorem win_lt {l : List Nat} (h : Okw l) (j k : Nat) : win l j k<wB ^ k:=by
 have h1:=val_lt ((h.drop j).take k)
 refine Nat.lt_of_lt_of_le h1 (Nat.pow_le_pow_right wB_pos ?_)
 rw [List.length_take]; omega
theorem val_low (l : List Nat) {j : Nat} (h : j≤l.length) : val l=preN l j+wB ^ j * val (l.drop j):=val_split l j h
theorem val_win {l : List Nat} {j k : Nat} (hz : ∀ i,j+k<i→wd l i=0) (h : j+k<l.length) : val (l.drop j)=win l j k+wB ^ k * wd l (j+k):=by
 have e : val (l.drop j)=preN (l.drop j) (k+1):=val_of_zero (fun i hi=>by rw [wd_drop]; exact hz _ (by omega)) (by rw [List.length_drop]; omega)
 rw [e,preN_succ (by rw [List.length_drop]; omega),wd_drop]
 rfl
theorem kn_of {U V Lu Lq j k : Nat} {l qs v : List Nat} (h : Dv U V Lu Lq (j+1) l qs) (hv : Okw v) (hV : val v=V) (hk : v.length=k) (hk2 : 2≤k) (hhalf : wB≤2 * wd v (k - 1)) (hL : Lu=Lq+k) (hj : j<Lq) :
  Kn (val (l.drop j) / V) wB (wB ^ (k - 2)) (wd l (j+k) * wB+wd l (j+k - 1)) (wd l (j+k)) (wd l (j+k - 1)) (wd l (j+k - 2)) (wd v (k - 1)) (wd v (k - 2)) (preN v (k - 2)) (win l j (k - 2)) (val (l.drop j)) V:=by
 obtain ⟨h1,h2,h3,h4,h5,h6⟩:=h
 have hVlt : V<wB ^ k:=by rw [← hV,← hk]; exact val_lt hv
 have hV0 : 0<V:=by
  have:=hv.wd (k - 1)
  have e:=val_split v (k - 1) (by omega)
  rw [drop_wd (by omega),val_cons] at e
  have e2 : 0<wB ^ (k - 1) * (wd v (k - 1)+wB * val (v.drop (k - 1+1))):=by
   refine Nat.mul_pos (Nat.pow_pos wB_pos) ?_
   have:=wB_eq
   omega
  omega
 have hz : ∀ i,j+k<i→wd l i=0:=fun i hi=>by
  have:=wd_zero_of_lt (l:=l.drop (j+1)) (k:=k) (i:=i - (j+1)) (by omega) (by omega)
  rw [wd_drop] at this
  rwa [show j+1 + (i - (j+1))=i by omega] at this
 have hR : val (l.drop j)=wd l j+wB * val (l.drop (j+1)):=by rw [drop_wd (by omega),val_cons]
 refine ⟨Nat.pow_pos wB_pos,rfl, ?_, ?_,win_lt h2 _ _, ?_,h2.wd _,h2.wd _,h2.wd _,hv.wd _,hv.wd _,hhalf,Nat.div_mul_le_self _ _, ?_, ?_⟩
 ·rw [val_win hz (by omega),win,win]
  obtain ⟨m,rfl⟩ : ∃ m,k=m+2:=⟨k - 2,by omega⟩
  rw [show m+2 - 2=m by omega,show m+2=m+1+1 by omega,preN_succ (by rw [List.length_drop]; omega),preN_succ (by rw [List.length_drop]; omega),wd_drop,wd_drop]
  rw [show j + (m+1+1) - 1=j + (m+1) by omega,show j + (m+1+1) - 2=j+m by omega,Nat.add_mul,Nat.add_mul,Nat.add_mul]
  have e1 : wB ^ (m+1) * wd l (j + (m+1))=wd l (j + (m+1)) * wB * wB ^ m:=by rw [Nat.pow_succ]; ac_rfl
  have e2 : wB ^ (m+1+1) * wd l (j + (m+1+1))=wd l (j + (m+1+1)) * wB * wB * wB ^ m:=by rw [Nat.pow_succ,Nat.pow_succ]; ac_rfl
  have e3 : wB ^ m * wd l (j+m)=wd l (j+m) * wB ^ m:=Nat.mul_comm _ _
  omega
 ·obtain ⟨m,rfl⟩ : ∃ m,k=m+2:=⟨k - 2,by omega⟩
  rw [← hV,← preN_all (l:=v) (j:=m+2) (by omega),show m+2=m+1+1 by omega,preN_succ (by omega),preN_succ (by omega)]
  rw [show m+1+1 - 1=m+1 by omega,show m+1+1 - 2=m by omega,Nat.add_mul]
  have e1 : wB ^ (m+1) * wd v (m+1)=wd v (m+1) * wB * wB ^ m:=by rw [Nat.pow_succ]; ac_rfl
  have e3 : wB ^ m * wd v m=wd v m * wB ^ m:=Nat.mul_comm _ _
  omega
 ·have:=val_lt (hv.take (k - 2))
  refine Nat.lt_of_lt_of_le this (Nat.pow_le_pow_right wB_pos ?_)
  rw [List.length_take]; omega
 ·have:=Nat.lt_div_mul_add (a:=val (l.drop j)) hV0
  rw [Nat.add_mul,Nat.one_mul]
  exact this
 ·rw [hR]
  have:=h2.wd j
  have e : wB * (val (l.drop (j+1))+1)≤wB * V:=Nat.mul_le_mul_left _ h5
  rw [Nat.mul_add,Nat.mul_one] at e
  omega
theorem dv_next {U V Lu Lq j k q : Nat} {l qs l2 : List Nat} (h : Dv U V Lu Lq (j+1) l qs) (hL : Lu=Lq+k) (hj : j<Lq) (hV : V≤wB ^ k) (hq : q=val (l.drop j) / V) (hqB : q<wB)
  (hlen : l2.length=Lu) (ho : Okw l2) (hsame : ∀ t,t<j∨j+k<t→wd l2 t=wd l t) (hw : win l2 j k+q * V=val (l.drop j)) :
  Dv U V Lu Lq j (l2.set (j+k) 0) (qs.set j q):=by
 obtain ⟨h1,h2,h3,h4,h5,h6⟩:=h
 have hV0 : 0<V:=by omega
 have hz : ∀ i,j+k<i→wd l i=0:=fun i hi=>by
  have:=wd_zero_of_lt (l:=l.drop (j+1)) (k:=k) (i:=i - (j+1)) (by omega) (by omega)
  rw [wd_drop] at this
  rwa [show j+1 + (i - (j+1))=i by omega] at this
 have hlen' : (l2.set (j+k) 0).length=Lu:=by rw [List.length_set]; exact hlen
 have hz2 : ∀ i,j+k<i→wd (l2.set (j+k) 0) i=0:=fun i hi=>by
  rw [wd_set (by omega),if_neg (by omega),hsame i (.inr hi),hz i hi]
 have e0 : wd (l2.set (j+k) 0) (j+k)=0:=by rw [wd_set (by omega),if_pos rfl]
 have ew : win (l2.set (j+k) 0) j k=win l2 j k:=by
  refine preN_congr (fun i hi=>?_) (by rw [List.length_drop]; omega) (by rw [List.length_drop]; omega)
  rw [wd_drop,wd_drop,wd_set (by omega),if_neg (by omega)]
 have e1 : val ((l2.set (j+k) 0).drop j)=win l2 j k:=by rw [val_win hz2 (by omega),e0,ew,Nat.mul_zero,Nat.add_zero]
 have hmod : win l2 j k<V:=by
  have:=Nat.lt_div_mul_add (a:=val (l.drop j)) hV0
  rw [← hq] at this
  omega
 refine ⟨hlen',ho.set _ _ wB_pos,by rw [List.length_set]; exact h3,h4.set _ _ hqB,by rw [e1]; exact hmod, ?_⟩
 have elow : preN (l2.set (j+k) 0) j=preN l j:=preN_congr (fun i hi=>by rw [wd_set (by omega),if_neg (by omega),hsame i (.inl hi)]) (by omega) (by omega)
 rw [val_low _ (show j≤(l2.set (j+k) 0).length by omega),e1,elow,drop_wd (by rw [List.length_set]; omega),wd_set (by omega),if_pos rfl,drop_set_same,val_cons,← h6,val_low l (j:=j) (by omega),← hw,Nat.mul_add,Nat.mul_add,Nat.pow_succ]
 have e2 : V * wB ^ j * q=wB ^ j * (q * V):=by ac_rfl
 have e3 : V * wB ^ j * (wB * val (qs.drop (j+1)))=V * (wB ^ j * wB) * val (qs.drop (j+1)):=by ac_rfl
 rw [e2,e3]
 omega
theorem sub_win {U V Lu Lq j k g c b : Nat} {l qs v l' : List Nat} (h : Dv U V Lu Lq (j+1) l qs) (hV : val v=V) (hk : v.length=k) (hVk : V≤wB ^ k) (hL : Lu=Lq+k) (hj : j<Lq) (hm : Msub l v j g k l' c b) :
  (win l' j k : Int) + (wB : Int) ^ k * ((wd l' (j+k) : Int) - c - b)=(val (l.drop j) : Int) - g * V:=by
 obtain ⟨h1,h2,h3,h4,h5,h6⟩:=h
 obtain ⟨m1,m2,m3,m4,m5,m6⟩:=hm
 have hz : ∀ i,j+k<i→wd l i=0:=fun i hi=>by
  have:=wd_zero_of_lt (l:=l.drop (j+1)) (k:=k) (i:=i - (j+1)) (by omega) (by omega)
  rw [wd_drop] at this
  rwa [show j+1 + (i - (j+1))=i by omega] at this
 have hz2 : ∀ i,j+k<i→wd l' i=0:=fun i hi=>by rw [m6 i (.inr (by omega)),hz i hi]
 have elow : preN l' j=preN l j:=preN_congr (fun i hi=>m6 i (.inl hi)) (by omega) (by omega)
 have e1:=val_low l' (j:=j) (by omega)
 rw [val_win hz2 (by omega),elow] at e1
 have e2:=val_low l (j:=j) (by omega)
 rw [preN_all (by omega),hV] at m5
 have e1':=congrArg (Nat.cast : Nat→Int) e1
 have e2':=congrArg (Nat.cast : Nat→Int) e2
 push_cast at e1' e2'
 have hX : (0 : Int)<(wB : Int) ^ j:=by exact_mod_cast Nat.pow_pos (n:=j) wB_pos
 refine Int.eq_of_mul_eq_mul_left (Int.ne_of_gt hX) ?_
 rw [Int.pow_add] at m5
 generalize (wB : Int) ^ j=X at *
 generalize (wB : Int) ^ k=Y at *
 rw [Int.mul_sub,Int.mul_add,Int.mul_sub,Int.mul_sub,Int.mul_sub,Int.mul_sub]
 rw [Int.mul_add] at e1'
 have e3 : X * Y * ((c : Int)+b)=X * (Y * c)+X * (Y * b):=by rw [Int.mul_add,Int.mul_assoc,Int.mul_assoc]
 omega
theorem sub_exact {U V Lu Lq j k g c b : Nat} {l qs v l' : List Nat} (h : Dv U V Lu Lq (j+1) l qs) (hV : val v=V) (hk : v.length=k) (hVk : V≤wB ^ k) (hL : Lu=Lq+k) (hj : j<Lq) (hm : Msub l v j g k l' c b)
  (hg : g=val (l.drop j) / V) : (wd l' (j+k) : Int) - c - b=0∧win l' j k+g * V=val (l.drop j):=by
 have e:=sub_win h hV hk hVk hL hj hm
 have hV0 : 0<V:=by have:=h.2.2.2.2.1; omega
 have h1:=Nat.div_mul_le_self (val (l.drop j)) V
 have h2:=Nat.lt_div_mul_add (a:=val (l.drop j)) hV0
 rw [← hg] at h1 h2
 have h3:=win_lt hm.2.1 j k
 have h3' : (win l' j k : Int)<(wB : Int) ^ k:=by exact_mod_cast h3
 have hVk' : (V : Int)≤(wB : Int) ^ k:=by exact_mod_cast hVk
 have hgV : (g : Int) * V=((g * V : Nat) : Int):=by rw [Int.natCast_mul]
 rw [hgV] at e
 generalize (wd l' (j+k) : Int) - c - b=z at *
 generalize (wB : Int) ^ k=Y at *
 have hz : z=0:=by
  rcases Int.lt_trichotomy z 0 with hz | hz | hz
  ·exfalso
   have : Y * z≤Y * (-1):=Int.mul_le_mul_of_nonneg_left (by omega) (by omega)
   omega
  ·exact hz
  ·exfalso
   have : Y * 1≤Y * z:=Int.mul_le_mul_of_nonneg_left (by omega) (by omega)
   omega
 subst hz
 rw [Int.mul_zero] at e
 exact ⟨rfl,by omega⟩
theorem sub_over {U V Lu Lq j k g c b : Nat} {l qs v l' : List Nat} (h : Dv U V Lu Lq (j+1) l qs) (hV : val v=V) (hk : v.length=k) (hVk : V≤wB ^ k) (hL : Lu=Lq+k) (hj : j<Lq) (hm : Msub l v j g k l' c b)
  (hg : g=val (l.drop j) / V+1) : (wd l' (j+k) : Int) - c - b = -1 ∧
   ∀ l2 c2,Madd l' v j k l2 c2→c2=1∧win l2 j k + (g - 1) * V=val (l.drop j)∧wd l2 (j+k)=wd l' (j+k)∧(∀ t,t<j∨j+k<t→wd l2 t=wd l t):=by
 have e:=sub_win h hV hk hVk hL hj hm
 have hV0 : 0<V:=by have:=h.2.2.2.2.1; omega
 obtain ⟨q,rfl⟩ : ∃ q,g=q+1:=⟨_,hg⟩
 have hq : q=val (l.drop j) / V:=Nat.add_right_cancel hg
 have h1:=Nat.div_mul_le_self (val (l.drop j)) V
 have h2:=Nat.lt_div_mul_add (a:=val (l.drop j)) hV0
 rw [← hq] at h1 h2
 have h3:=win_lt hm.2.1 j k
 have h3' : (win l' j k : Int)<(wB : Int) ^ k:=by exact_mod_cast h3
 have hVk' : (V : Int)≤(wB : Int) ^ k:=by exact_mod_cast hVk
 have hgV : ((q+1 : Nat) : Int) * V=((q * V : Nat) : Int)+V:=by push_cast; rw [Int.add_mul,Int.one_mul]
 rw [hgV] at e
 have hz : (wd l' (j+k) : Int) - c - b = -1:=by
  generalize (wd l' (j+k) : Int) - c - b=z at *
  generalize (wB : Int) ^ k=Y at *
  rcases Int.lt_trichotomy z (-1) with hz | hz | hz
  ·exfalso
   have : Y * z≤Y * (-2):=Int.mul_le_mul_of_nonneg_left (by omega) (by omega)
   omega
  ·exact hz
  ·exfalso
   have : Y * 0≤Y * z:=Int.mul_le_mul_of_nonneg_left (by omega) (by omega)
   omega
 refine ⟨hz,fun l2 c2 hadd=>?_⟩
 rw [hz] at e
 obtain ⟨a1,a2,a3,a4,a5⟩:=hadd
 obtain ⟨d1,d2,d3,d4,d5,d6⟩:=h
 obtain ⟨m1,m2,m3,m4,m5,m6⟩:=hm
 have hzl : ∀ i,j+k<i→wd l i=0:=fun i hi=>by
  have:=wd_zero_of_lt (l:=l.drop (j+1)) (k:=k) (i:=i - (j+1)) (by omega) (by omega)
  rw [wd_drop] at this
  rwa [show j+1 + (i - (j+1))=i by omega] at this
 have hz1 : ∀ i,j+k<i→wd l' i=0:=fun i hi=>by rw [m6 i (.inr (by omega)),hzl i hi]
 have hz2 : ∀ i,j+k<i→wd l2 i=0:=fun i hi=>by rw [a5 i (.inr (by omega)),hz1 i hi]
 have elow : preN l2 j=preN l' j:=preN_congr (fun i hi=>a5 i (.inl hi)) (by omega) (by omega)
 have e1:=val_low l' (j:=j) (by omega)
 have e2:=val_low l2 (j:=j) (by omega)
 rw [val_win hz1 (by omega)] at e1
 rw [val_win hz2 (by omega),elow,a5 (j+k) (.inr (by omega))] at e2
 rw [preN_all (by omega),hV,Nat.pow_add] at a4
 have ewin : win l2 j k+wB ^ k * c2=win l' j k+V:=by
  refine Nat.eq_of_mul_eq_mul_left (Nat.pow_pos (n:=j) wB_pos) ?_
  rw [Nat.mul_add] at e1 e2
  rw [Nat.mul_add,Nat.mul_add,← Nat.mul_assoc]
  omega
 have ewin' : (win l2 j k : Int) + (wB : Int) ^ k * c2=win l' j k+V:=by exact_mod_cast ewin
 have h4:=win_lt a2 j k
 have h4' : (win l2 j k : Int)<(wB : Int) ^ k:=by exact_mod_cast h4
 have hc2 : c2=1:=by
  rcases Nat.eq_zero_or_pos c2 with e0 | e0
  ·exfalso
   subst e0
   generalize (wB : Int) ^ k=Y at *
   omega
  ·omega
 subst hc2
 refine ⟨rfl, ?_,a5 _ (.inr (by omega)),fun t ht=>?_⟩
 ·rw [Nat.add_sub_cancel]
  generalize (wB : Int) ^ k=Y at *
  omega
 ·rw [a5 t (by omega),m6 t (by omega)]
end Go.Proofs.YtopfedbhkfdjkaaGreatDoor


/- The factor that makes a divisor's highest word great enough. Plain lemmas: no program. -/
namespace Go.Proofs.YtopfedbhkfdjkaaGreatDoor
theorem half_aux {B v f : Nat} (hB : B % 2=0) (hv : 1≤v) (hvB : v<B) (hf : f=B / (v+1)) : B≤2 * (v * f)∧1≤f∧(v+1) * f≤B:=by
 have h1 : B<(f+1) * (v+1):=by rw [hf]; exact Nat.lt_mul_of_div_lt (Nat.lt_succ_self _) (by omega)
 have h2 : f * (v+1)≤B:=by rw [hf]; exact Nat.div_mul_le_self _ _
 have h3 : 1≤f:=by rw [hf,Nat.le_div_iff_mul_le (by omega)]; omega
 refine ⟨?_,h3,by rw [Nat.mul_comm]; exact h2⟩
 rw [Nat.add_mul,Nat.one_mul] at h1
 rcases Nat.lt_or_ge (2 * v) B with hl | hl
 ·rcases Nat.lt_or_ge (2 * (v * f)) B with hc | hc
  ·exfalso
   have e1 : 2 * (v * f)≤B - 2:=by omega
   have e2 : 2 * (v * f) * (v+1)≤(B - 2) * (v+1):=Nat.mul_le_mul_right _ e1
   have e3 : 2 * (v * f) * (v+1)=2 * v * (f * (v+1)):=by ac_rfl
   have e4 : 2 * v * (B - v)≤2 * v * (f * (v+1)):=Nat.mul_le_mul_left _ (by omega)
   obtain ⟨c,rfl⟩ : ∃ c,B=c+2 * v:=⟨B - 2 * v,by omega⟩
   obtain ⟨d,rfl⟩ : ∃ d,v=d+1:=⟨v - 1,by omega⟩
   have e5 : (c+2 * (d+1) - 2)=c+2 * d:=by omega
   have e6 : (c+2 * (d+1) - (d+1))=c + (d+1):=by omega
   rw [e5] at e2
   rw [e6] at e4
   rw [e3] at e2
   have e7:=Nat.le_trans e4 e2
   simp only [Nat.mul_add,Nat.add_mul,Nat.mul_one,Nat.one_mul,Nat.mul_assoc] at e7
   have e8 : c * d=d * c:=Nat.mul_comm _ _
   omega
  ·exact hc
 ·have : v * 1≤v * f:=Nat.mul_le_mul_left _ h3
  omega
theorem top_word {n k : Nat} (hk : (wds n).length=k) (h1 : 1≤k) : wd (wds n) (k - 1) * wB ^ (k - 1)≤n∧n<(wd (wds n) (k - 1)+1) * wB ^ (k - 1)∧1≤wd (wds n) (k - 1)∧wd (wds n) (k - 1)<wB:=by
 have e:=val_take_succ (wds n) (k - 1) (by omega)
 rw [show k - 1+1=k by omega,List.take_of_length_le (by omega),val_wds] at e
 have hlt:=val_lt ((okw_wds n).take (k - 1))
 rw [List.length_take,Nat.min_eq_left (by omega)] at hlt
 have e2 : (wds n).getD (k - 1) 0=wd (wds n) (k - 1):=rfl
 rw [e2] at e
 have e3 : wB ^ (k - 1) * wd (wds n) (k - 1)=wd (wds n) (k - 1) * wB ^ (k - 1):=Nat.mul_comm _ _
 refine ⟨by omega,by rw [Nat.add_mul,Nat.one_mul]; omega, ?_,(okw_wds n).wd _⟩
 rcases lnz_wds n with h | h
 ·rw [h] at hk; simp at hk; omega
 ·rw [hk,e2] at h; omega
theorem norm_div {m k f : Nat} (hk : (wds m).length=k) (h1 : 1≤k) (hf : f=wB / (wd (wds m) (k - 1)+1)) :
  (wds (m * f)).length=k∧wB≤2 * wd (wds (m * f)) (k - 1)∧1≤f∧f≤500000000:=by
 obtain ⟨t1,t2,t3,t4⟩:=top_word hk h1
 obtain ⟨a1,a2,a3⟩:=half_aux (B:=wB) (by decide) t3 t4 hf
 have hm0 : 0<m:=by
  have : 1 * wB ^ (k - 1)≤wd (wds m) (k - 1) * wB ^ (k - 1):=Nat.mul_le_mul_right _ t3
  have:=Nat.pow_pos (n:=k - 1) wB_pos
  omega
 have hlen : (wds (m * f)).length=k:=by
  have u1 : (wds (m * f)).length≤k:=by
   refine wds_lt_pow ?_
   have e1 : m * f<(wd (wds m) (k - 1)+1) * wB ^ (k - 1) * f:=(Nat.mul_lt_mul_right a2).2 t2
   have e2 : (wd (wds m) (k - 1)+1) * wB ^ (k - 1) * f=((wd (wds m) (k - 1)+1) * f) * wB ^ (k - 1):=by ac_rfl
   have e3 : ((wd (wds m) (k - 1)+1) * f) * wB ^ (k - 1)≤wB * wB ^ (k - 1):=Nat.mul_le_mul_right _ a3
   have e4 : wB * wB ^ (k - 1)=wB ^ k:=by
    obtain ⟨j,rfl⟩ : ∃ j,k=j+1:=⟨k - 1,by omega⟩
    rw [Nat.add_sub_cancel,Nat.pow_succ,Nat.mul_comm]
   omega
  have u2 : (wds m).length≤(wds (m * f)).length:=wds_mono_length (Nat.le_mul_of_pos_right _ a2)
  omega
 refine ⟨hlen, ?_,a2, ?_⟩
 ·obtain ⟨s1,s2,_,_⟩:=top_word hlen h1
  have e1 : wd (wds m) (k - 1) * wB ^ (k - 1) * f≤m * f:=Nat.mul_le_mul_right _ t1
  have e2 : wd (wds m) (k - 1) * wB ^ (k - 1) * f=wd (wds m) (k - 1) * f * wB ^ (k - 1):=by ac_rfl
  have e3 : wd (wds m) (k - 1) * f * wB ^ (k - 1)<(wd (wds (m * f)) (k - 1)+1) * wB ^ (k - 1):=by omega
  have:=Nat.lt_of_mul_lt_mul_right e3
  omega
 ·have : 2 * f≤(wd (wds m) (k - 1)+1) * f:=Nat.mul_le_mul_right _ (by omega)
  have:=wB_eq
  omega
theorem dv_start {U V Lu k : Nat} {l : List Nat} (h : l.length=Lu) (ho : Okw l) (hv : val l=U) (hk : k+1≤Lu) (hz : wd l (Lu - 1)=0) (hV : wB ^ (k - 1)≤V) (hk1 : 1≤k) : Dv U V Lu (Lu - k) (Lu - k) l (List.replicate (Lu - k) 0):=by
 refine ⟨h,ho,by simp,Okw.replicate _, ?_, ?_⟩
 ·have hlen : (l.drop (Lu - k)).length=k:=by rw [List.length_drop]; omega
  have e:=val_take_succ (l.drop (Lu - k)) (k - 1) (by omega)
  rw [show k - 1+1=k by omega,List.take_of_length_le (by omega)] at e
  have e2 : (l.drop (Lu - k)).getD (k - 1) 0=0:=by
   have:=wd_drop l (Lu - k) (k - 1)
   rw [show Lu - k + (k - 1)=Lu - 1 by omega,hz] at this
   exact this
  rw [e2,Nat.mul_zero,Nat.add_zero] at e
  have hlt:=val_lt ((ho.drop (Lu - k)).take (k - 1))
  rw [List.length_take,hlen,Nat.min_eq_left (by omega)] at hlt
  omega
 ·rw [List.drop_of_length_le (by simp),val_nil,Nat.mul_zero,Nat.add_zero,hv]
theorem dv_end {U V Lu Lq : Nat} {l qs : List Nat} (h : Dv U V Lu Lq 0 l qs) : val qs=U / V∧val l=U % V:=by
 obtain ⟨h1,h2,h3,h4,h5,h6⟩:=h
 rw [List.drop_zero] at h5 h6
 rw [Nat.pow_zero,Nat.mul_one] at h6
 have hV : 0<V:=by omega
 rw [← h6]
 constructor
 ·rw [Nat.add_mul_div_left _ _ hV,Nat.div_eq_of_lt h5,Nat.zero_add]
 ·rw [Nat.add_mul_mod_self_left,Nat.mod_eq_of_lt h5]
end Go.Proofs.YtopfedbhkfdjkaaGreatDoor
