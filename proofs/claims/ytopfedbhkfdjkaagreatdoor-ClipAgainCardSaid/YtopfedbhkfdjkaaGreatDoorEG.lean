
/- The decimal text of a number, made from its lowest digit on, in plain Lean. -/
import Derived.Test.YtopfedbhkfdjkaaGreatDoorE1
import Derived.Test.YtopfedbhkfdjkaaGreatDoorE9
import Derived.Laws.IdiomStrings
import Derived.Deep.MidRow
import Derived.Test.YtopfedbhkfdjkaaGreatDoorEF
import Derived.Deep.RegionLaw
set_option linter.unusedVariables false
set_option linter.unusedSimpArgs false
namespace Go.Proofs.YtopfedbhkfdjkaaGreatDoor
open Go Go.RowKit Go.Lib
/-! ### The words of a number and its digits -/
end Go.Proofs.YtopfedbhkfdjkaaGreatDoor


/- garboardref01: To: a number's text. -/
namespace Go.Proofs.YtopfedbhkfdjkaaGreatDoor
open Go Go.RowKit
open Go.Lib (decDigits)
end Go.Proofs.YtopfedbhkfdjkaaGreatDoor


/- garboardref02 and garboardref03: To: a number's text. -/
namespace Go.Proofs.YtopfedbhkfdjkaaGreatDoor
open Go Go.RowKit
open Go.Lib (decDigits itoa)
end Go.Proofs.YtopfedbhkfdjkaaGreatDoor


/- garboardref11: a vector of the reference; a struct stored whole. -/
namespace Go.Proofs.YtopfedbhkfdjkaaGreatDoor
open Go Go.RowKit
def Keep (W W' : World) : Prop:=∀ a k i,W.cell? a=some (.int k i)→W'.cell? a=some (.int k i)
theorem Keep.trans {W W1 W2 : World} (h : Keep W W1) (g : Keep W1 W2) : Keep W W2:=fun a k i e=>g a k i (h a k i e)
theorem Bk.c9 {w : World} {b : Nat} {a0 a1 a2 a3 a4 a5 a6 a7 a8 : Value} (h : Bk w b [a0,a1,a2,a3,a4,a5,a6,a7,a8]) :
  (w.cell? ⟨b,0,none⟩=some a0∧w.cell? ⟨b,1,none⟩=some a1∧w.cell? ⟨b,2,none⟩=some a2∧w.cell? ⟨b,3,none⟩=some a3∧w.cell? ⟨b,4,none⟩=some a4∧w.cell? ⟨b,5,none⟩=some a5∧w.cell? ⟨b,6,none⟩=some a6∧w.cell? ⟨b,7,none⟩=some a7∧w.cell? ⟨b,8,none⟩=some a8) ∧
  (w.frozen? ⟨b,0,none⟩=false∧w.frozen? ⟨b,1,none⟩=false∧w.frozen? ⟨b,2,none⟩=false∧w.frozen? ⟨b,3,none⟩=false∧w.frozen? ⟨b,4,none⟩=false∧w.frozen? ⟨b,5,none⟩=false∧w.frozen? ⟨b,6,none⟩=false∧w.frozen? ⟨b,7,none⟩=false∧w.frozen? ⟨b,8,none⟩=false) :=
 ⟨⟨h.cell 0 _ rfl,h.cell 1 _ rfl,h.cell 2 _ rfl,h.cell 3 _ rfl,h.cell 4 _ rfl,h.cell 5 _ rfl,h.cell 6 _ rfl,h.cell 7 _ rfl,h.cell 8 _ rfl⟩,h.free 0,h.free 1,h.free 2,h.free 3,h.free 4,h.free 5,h.free 6,h.free 7,h.free 8⟩
theorem r_below_cells {B b : Nat} {a : World} (hb : B≤b) : ∀ (vs : List Value) (o : Nat) {w : World},Below B a w→Below B a (w.setCells b o vs)
 | [],_,_,h=>h
 | v :: r,o,_,h=>r_below_cells hb r (o+1) (h.setCell (p:=⟨b,o,none⟩) hb v)
section
variable {P : Program} {ops : Array Oper} {o : Oper} {a : Act} {K : Act→World→Prop} {Q : Exit→Act→World→Prop} {E : Prop}
theorem stored_row {w0 X : World} {B b : Nat} {vs cs : List Value} (hb : Bk X b vs) (hl : cs.length=vs.length) (hn : ∀ k i,(Value.int k i) ∉ vs) (HB : Below B w0 X) (hB : B≤b) :
  Bk (X.setCells b 0 cs) b cs∧Below B w0 (X.setCells b 0 cs)∧Keep X (X.setCells b 0 cs)∧(∀ c o v,c≠b→X.cell? ⟨c,o,none⟩=some v→(X.setCells b 0 cs).cell? ⟨c,o,none⟩=some v):=by
 have hth : X.there b 0 cs.length:=fun j hj=>by
  have hj2 : j<vs.length:=by omega
  rw [Nat.zero_add]
  exact ⟨by rw [hb.cell j _ (List.getElem?_eq_getElem hj2)]; rfl,hb.free j⟩
 refine ⟨⟨Nat.lt_of_lt_of_le hb.lt (r_below_cells (B:=0) (Nat.zero_le b) cs 0 (Below.refl 0 X)).size,fun j v hv=>?_,fun j=>?_⟩,r_below_cells hB cs 0 HB,fun p k i hp=>?_,fun c q v hc hv=>?_⟩
 ·have:=World.rangeAt_setCells_same X b 0 cs hth j v hv
  rwa [Nat.zero_add] at this
 ·rw [World.frozen?_setCells]
  exact hb.free j
 ·rw [World.cell?_setCells_out b cs 0 X p (fun h1 h2=>?_)]
  ·exact hp
  ·right
   rcases Nat.lt_or_ge p.off cs.length with h3 | h3
   ·exfalso
    have hs:=World.cell?_spot hp
    obtain ⟨pb,po,ps⟩:=p
    simp only at h1 hs h3
    subst h1 hs
    rw [hb.cell po _ (List.getElem?_eq_getElem (by omega))] at hp
    exact hn k i (by rw [← Option.some.inj hp]; exact List.getElem_mem _)
   ·rw [Nat.zero_add]
    exact h3
 ·rw [World.cell?_setCells_out b cs 0 X ⟨c,q,none⟩ (fun h1 _=>absurd h1 hc)]
  exact hv
end
end Go.Proofs.YtopfedbhkfdjkaaGreatDoor


/- garboardref11: Plus, Minus. -/
namespace Go.Proofs.YtopfedbhkfdjkaaGreatDoor
open Go Go.RowKit
end Go.Proofs.YtopfedbhkfdjkaaGreatDoor


/- garboardref11: To. -/
namespace Go.Proofs.YtopfedbhkfdjkaaGreatDoor
open Go Go.RowKit
end Go.Proofs.YtopfedbhkfdjkaaGreatDoor


/- garboardref11: From, Valid. -/
namespace Go.Proofs.YtopfedbhkfdjkaaGreatDoor
open Go Go.RowKit
def qOf (s : ByteArray) : Rat:=if isRat s then ratOfL s.data.toList else 0
theorem qOf_rtx (q : Rat) : qOf (rtx q)=q:=by
 unfold qOf
 rw [isRat_rtx,if_pos rfl,rtx_toList,ratOfL_rtoa]
def vOf (s : SV) : V3:=⟨qOf s.x,qOf s.y,qOf s.z⟩
theorem vOf_txv (a : V3) : vOf (txv a)=a:=by
 unfold vOf txv
 rw [qOf_rtx,qOf_rtx,qOf_rtx]
end Go.Proofs.YtopfedbhkfdjkaaGreatDoor


/- garboardref11: Valid, both, Add. -/
namespace Go.Proofs.YtopfedbhkfdjkaaGreatDoor
open Go Go.RowKit
section
variable {P : Program} {ops : Array Oper} {o : Oper} {a : Act} {K : Act→World→Prop} {Q : Exit→Act→World→Prop} {E : Prop}
theorem stored_far {X : World} {b c : Nat} {cs us : List Value} (hc : c≠b) (h : Bk X c us) : Bk (X.setCells b 0 cs) c us :=
 ⟨Nat.lt_of_lt_of_le h.lt (r_below_cells (B:=0) (Nat.zero_le b) cs 0 (Below.refl 0 X)).size,fun j v hv=>by
  rw [World.cell?_setCells_out b cs 0 X ⟨c,j,none⟩ (fun h1 _=>absurd h1 hc)]
  exact h.cell j v hv,fun j=>by
  rw [World.frozen?_setCells]
  exact h.free j⟩
theorem step_store_row2 {w0 X : World} {B b : Nat} {vs cs : List Value} (hgd : o.guard=none) (ty : TypeId) (x y : Operand) (ho : o.op=.store ty x y)
  (hx : a.eval x=.pointer (some ⟨b,0,none⟩)) (hy : a.eval y=.agg cs.toArray) (hb : Bk X b vs) (hl : cs.length=vs.length) (hn : ∀ k i,(Value.int k i) ∉ vs) (h1 : cs.all (·.oneCell')=true)
  (hi : (P.info? ty).map (·.size)=some cs.length) (HB : Below B w0 X) (hB : B≤b)
  (h : ∀ X',Bk X' b cs→Below B w0 X'→Keep X X'→(∀ c o v,c≠b→X.cell? ⟨c,o,none⟩=some v→X'.cell? ⟨c,o,none⟩=some v)→(∀ c us,c≠b→Bk X c us→Bk X' c us)→K (a.put o.dst undef) X') :
  if Region.wanted o (yielded ops a.tmps)=true then Oper.wp P o a X K Q else E:=by
 have hw : Region.wanted o (yielded ops a.tmps)=true:=by simp [Region.wanted,hgd]
 rw [if_pos hw]
 obtain ⟨k1,k2,k3,k4⟩:=stored_row hb hl hn HB hB
 have hth : X.there b 0 cs.toArray.size:=fun j hj=>by
  have hj2 : j<vs.length:=by simp at hj; omega
  rw [Nat.zero_add]
  exact ⟨by rw [hb.cell j _ (List.getElem?_eq_getElem hj2)]; rfl,hb.free j⟩
 refine wp_store_mid ty x y ho b 0 cs.toArray hx hy hth (by simpa using hi) (by simpa using h1) ?_
 exact h _ k1 k2 k3 k4 (fun c us hc h=>stored_far hc h)
end
end Go.Proofs.YtopfedbhkfdjkaaGreatDoor
