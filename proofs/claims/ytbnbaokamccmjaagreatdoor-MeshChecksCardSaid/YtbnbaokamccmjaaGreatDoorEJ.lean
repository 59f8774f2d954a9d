/- garboardref12: rows of triangles of garboardref11's vectors: their cells. -/
import Derived.Test.YtbnbaokamccmjaaGreatDoorEI
set_option linter.unusedVariables false
set_option linter.unusedSimpArgs false
namespace Go.Proofs.YtbnbaokamccmjaaGreatDoor
open Go Go.RowKit
def VC (w : World) (c : List Value) (p : V3) : Prop:=∃ A1 a1 B1 b1 A2 a2 B2 b2 A3 a3 B3 b3,
  c=[.bool (decide (p.x.num<0)),.slice A1 (wds p.x.num.natAbs).length a1,.slice B1 (wds p.x.den).length b1,.bool (decide (p.y.num<0)),.slice A2 (wds p.y.num.natAbs).length a2,.slice B2 (wds p.y.den).length b2,.bool (decide (p.z.num<0)),.slice A3 (wds p.z.num.natAbs).length a3,.slice B3 (wds p.z.den).length b3]∧Vn w (.agg c.toArray) p
theorem VC.vn {w : World} {c : List Value} {p : V3} (h : VC w c p) : Vn w (.agg c.toArray) p:=by
 obtain ⟨_,_,_,_,_,_,_,_,_,_,_,_,_,h⟩:=h
 exact h
theorem VC.len {w : World} {c : List Value} {p : V3} (h : VC w c p) : c.length=9:=by
 obtain ⟨_,_,_,_,_,_,_,_,_,_,_,_,rfl,_⟩:=h
 rfl
theorem VC.below {w w1 : World} {c : List Value} {p : V3} (h : VC w c p) (g : Below w.heap.size w w1) : VC w1 c p:=by
 obtain ⟨A1,a1,B1,b1,A2,a2,B2,b2,A3,a3,B3,b3,hc,hv⟩:=h
 exact ⟨A1,a1,B1,b1,A2,a2,B2,b2,A3,a3,B3,b3,hc,hv.below g⟩
theorem VC.keep {w w1 : World} {c : List Value} {p : V3} (h : VC w c p) (g : Keep w w1) : VC w1 c p:=by
 obtain ⟨A1,a1,B1,b1,A2,a2,B2,b2,A3,a3,B3,b3,hc,hv⟩:=h
 exact ⟨A1,a1,B1,b1,A2,a2,B2,b2,A3,a3,B3,b3,hc,hv.keep g⟩
theorem vc_of {w : World} {z : Value} {p : V3} (h : Vn w z p) : ∃ c,z=.agg c.toArray∧VC w c p:=by
 have h0:=h
 obtain ⟨A1,a1,B1,b1,A2,a2,B2,b2,A3,a3,B3,b3,rfl,_⟩:=h.open
 exact ⟨_,rfl,A1,a1,B1,b1,A2,a2,B2,b2,A3,a3,B3,b3,rfl,h0⟩
theorem VC.one {w : World} {c : List Value} {p : V3} (h : VC w c p) : ∀ u ∈ c,u.oneCell'=true:=by
 obtain ⟨_,_,_,_,_,_,_,_,_,_,_,_,rfl,_⟩:=h
 intro u hu
 simp only [List.mem_cons,List.not_mem_nil,or_false] at hu
 rcases hu with rfl | rfl | rfl | rfl | rfl | rfl | rfl | rfl | rfl<;>rfl
def over (xs : List Value) (o : Nat) : List Value→List Value
 | []=>xs
 | u :: us=>over (xs.set o u) (o+1) us
end Go.Proofs.YtbnbaokamccmjaaGreatDoor
