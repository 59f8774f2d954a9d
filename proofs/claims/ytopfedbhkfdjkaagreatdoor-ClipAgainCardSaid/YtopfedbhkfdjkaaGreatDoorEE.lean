
/- garboardref01: Valid, trim, Small, Cmp. -/
import Derived.Test.YtopfedbhkfdjkaaGreatDoorE8
import Derived.IntWalk
import Derived.Deep.CutBlock
import Derived.Deep.LoopGhost
set_option linter.unusedVariables false
set_option linter.unusedSimpArgs false
namespace Go.Proofs.YtopfedbhkfdjkaaGreatDoor
open Go Go.RowKit
end Go.Proofs.YtopfedbhkfdjkaaGreatDoor


/- garboardref01: From. -/
namespace Go.Proofs.YtopfedbhkfdjkaaGreatDoor
open Go Go.RowKit
end Go.Proofs.YtopfedbhkfdjkaaGreatDoor


/- garboardref01: Plus, Minus. -/
namespace Go.Proofs.YtopfedbhkfdjkaaGreatDoor
open Go Go.RowKit
theorem w3 (c x y : Nat) : Value.int .u32 (((c : Int) + (x : Int) + (y : Int)) % 1000000000)=.int .u32 (((c+x+y) % wB : Nat) : Int):=by
 rw [wB_eq]; congr 1
theorem w2 (c x : Nat) : Value.int .u32 (((c : Int) + (x : Int)) % 1000000000)=.int .u32 (((c+x) % wB : Nat) : Int):=by
 rw [wB_eq]; congr 1
end Go.Proofs.YtopfedbhkfdjkaaGreatDoor


/- garboardref01: Times. -/
namespace Go.Proofs.YtopfedbhkfdjkaaGreatDoor
open Go Go.RowKit
theorem u64_in {x : Int} (h0 : 0≤x) (h1 : x≤18446744073709551615) : IntKind.u64.wrap x=x:=by
 rw [IntKind.wrap_u64]; omega
end Go.Proofs.YtopfedbhkfdjkaaGreatDoor


/- garboardref01: small: the quotient and the remainder by one word. -/
namespace Go.Proofs.YtopfedbhkfdjkaaGreatDoor
open Go Go.RowKit
end Go.Proofs.YtopfedbhkfdjkaaGreatDoor


/- garboardref01: reduce: one step of the long division. -/
namespace Go.Proofs.YtopfedbhkfdjkaaGreatDoor
open Go Go.RowKit
end Go.Proofs.YtopfedbhkfdjkaaGreatDoor


/- garboardref01: Over: the quotient and the remainder. -/
namespace Go.Proofs.YtopfedbhkfdjkaaGreatDoor
open Go Go.RowKit
section
variable {P : Program} {ops : Array Oper} {rest : List Oper} {o : Oper} {a : Act} {Q : Exit→Act→World→Prop}
end
end Go.Proofs.YtopfedbhkfdjkaaGreatDoor


/- garboardref01: word, wide, Common. -/
namespace Go.Proofs.YtopfedbhkfdjkaaGreatDoor
open Go Go.RowKit
end Go.Proofs.YtopfedbhkfdjkaaGreatDoor


/- garboardref02: Make, Signum, Opposite, Small. -/
namespace Go.Proofs.YtopfedbhkfdjkaaGreatDoor
open Go Go.RowKit
theorem Num.set {W : World} {v : Value} {n : Nat} (h : Num W v n) {p : Addr} {x : Value} (hp : W.cell? p=some x) (hx : ∀ k i,x≠.int k i) (u : Value) : Num (W.setCell p u) v n:=by
 obtain ⟨A,cap,rfl,hn,hc,hcell⟩:=h.open
 refine U32.mk hn hc fun h0=>?_
 obtain ⟨b,off,hA,hcl⟩:=hcell h0
 refine ⟨b,off,hA,fun j hj=>?_⟩
 have hj':=hcl j hj
 have hne : (⟨b,off+j,none⟩ : Addr)≠p:=fun e=>by
  rw [e,hp] at hj'
  exact hx _ _ (Option.some.inj hj')
 exact (World.cell?_setCell_other (h:=fun e=>hne e.symm) ..).trans hj'
end Go.Proofs.YtopfedbhkfdjkaaGreatDoor


/- garboardref02: Plus, Times. -/
namespace Go.Proofs.YtopfedbhkfdjkaaGreatDoor
open Go Go.RowKit
end Go.Proofs.YtopfedbhkfdjkaaGreatDoor


/- garboardref02: Plus, Valid, Read. -/
namespace Go.Proofs.YtopfedbhkfdjkaaGreatDoor
open Go Go.RowKit
end Go.Proofs.YtopfedbhkfdjkaaGreatDoor
