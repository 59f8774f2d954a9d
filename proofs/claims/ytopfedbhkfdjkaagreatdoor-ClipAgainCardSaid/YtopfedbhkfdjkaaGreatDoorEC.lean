
/- mesh: points, Points. -/
import Derived.Test.YtopfedbhkfdjkaaGreatDoorEB
import Derived.Test.YtopfedbhkfdjkaaGreatDoorEA
import Derived.Lib.SliceRun
import Derived.Test.YtopfedbhkfdjkaaGreatDoorE9
set_option linter.unusedVariables false
set_option linter.unusedSimpArgs false
namespace Go.Proofs.YtopfedbhkfdjkaaGreatDoor
open Go Go.RowKit
open Go.ChangeMaps (setBlock)
end Go.Proofs.YtopfedbhkfdjkaaGreatDoor


/- mesh: Points, Reverse, Join. -/
namespace Go.Proofs.YtopfedbhkfdjkaaGreatDoor
open Go Go.RowKit
end Go.Proofs.YtopfedbhkfdjkaaGreatDoor


/- mesh: Convex. -/
namespace Go.Proofs.YtopfedbhkfdjkaaGreatDoor
open Go Go.RowKit
def txt (t : Tr V3) : TV:=Tr.map txv t
theorem txv_apart (x y : V3) (h : txv x=txv y) : x=y:=txv_inj h
theorem tle_txt {L : List (Tr V3)} {k m : Nat} (h : ∀ t ∈ L,t.a.le k∧t.b.le k∧t.c.le k) (hm : 2 * k+2≤m) : tle (L.map txt) m:=by
 intro t ht
 obtain ⟨u,hu,rfl⟩:=List.mem_map.1 ht
 obtain ⟨h1,h2,h3⟩:=h u hu
 have q : ∀ {a : V3},a.le k→(txv a).le m:=fun ha=>by
  have:=txv_le ha
  exact ⟨Nat.le_trans this.1 hm,Nat.le_trans this.2.1 hm,Nat.le_trans this.2.2 hm⟩
 exact ⟨q h1,q h2,q h3⟩
theorem take_all {α : Type} {l : List α} {q : α→Bool} {k : Nat} {t : α} (hk : l[k]?=some t) (h : (l.take k).all q=true) (ht : q t=true) : (l.take (k+1)).all q=true:=by
 have hlt : k<l.length:=(List.getElem?_eq_some_iff.1 hk).1
 have e : l[k]=t:=(List.getElem?_eq_some_iff.1 hk).2
 rw [List.take_succ_eq_append_getElem hlt,List.all_append,h,e]
 simp [ht]
end Go.Proofs.YtopfedbhkfdjkaaGreatDoor


/- slices.Clone of a solid; mesh: each. -/
namespace Go.Proofs.YtopfedbhkfdjkaaGreatDoor
open Go Go.RowKit
set_option maxHeartbeats 2000000 in
set_option maxRecDepth 100000 in
theorem cloneS_walk (v : Value) (l : List TV) (w : World) (hv : Ts w v l) (hm : l.length≤1000000) :
  Calls Tryz.prog 13 #[v] w (Ret fun u w'=>w'.ownsRow w.heap.size 36 9 u l.length (tcs l)∧Below w.heap.size w w'):=by
 have HV:=Lib.hid hv
 have HO:=Lib.hid (tcs_one_cell l)
 obtain ⟨A,cap,rfl,hn,hc,hcell⟩:=hv.open
 unfold Ts at HV
 have HN : Hid (A=none→l=[]):=Lib.hid (fun h=>by
  cases l with
  | nil=>rfl
  | cons t l =>
   obtain ⟨b,off,h2,_⟩:=hcell (by simp)
   rw [h] at h2
   cases h2)
 clear hcell hv
 have q : ∀ (w : World) (a : Option Addr) (n c n' c' : Nat),(binOp .eql 23 (.slice a n c) (.slice none n' c')).run Tryz.prog w=.ok (.bool a.isNone) w:=fun w a n c n' c'=>Lib.run_eql_slice_nil w _ _ a n c n' c' Tryz.underlying23
 cases A with
 | none =>
  have e:=HN.out rfl
  subst e
  clear HN HV HO
  go_enter Tryz.func13,Tryz.ntmps13
  go_wp2
  go_ret
  exact ⟨_,rfl,World.ownsRow_nil _ _ _ _,Below.refl _ _⟩
 | some ad =>
  clear HN
  go_enter Tryz.func13,Tryz.ntmps13
  go_wp2_with (at_builtin; refine append_rd (w0:=w) w.heap.size rfl (.tmp 5) (.tmp 6) 23 36 _ 9 144 rfl Tryz.underlying23 info_tri rfl (by omega) (by omega) _ 0 l.length [] (tcs l) rfl _ rfl (Rd.below HV.out (ba (br w))) HO.out (World.ownsRow_made w #[] 0 (Nat.le_refl _) (Nat.zero_le _) (by simp)) (ba (br w)) (by (try simp)<;>omega) (by omega) ?_; intro v2 w2 hown2 hb2 hg2)
  have HW:=Lib.hid hown2
  clear hown2 hg2
  go_wp2
  go_ret
  refine ⟨_,rfl, ?_,hb2⟩
  have:=HW.out
  rw [Nat.zero_add,List.nil_append] at this
  exact this
end Go.Proofs.YtopfedbhkfdjkaaGreatDoor


/- mesh: Move, Mirror. -/
namespace Go.Proofs.YtopfedbhkfdjkaaGreatDoor
open Go Go.RowKit
end Go.Proofs.YtopfedbhkfdjkaaGreatDoor


/- mesh: the leader of a point (a closure that calls itself). -/
namespace Go.Proofs.YtopfedbhkfdjkaaGreatDoor
open Go Go.RowKit
open Go.ChangeMaps (setBlock)
end Go.Proofs.YtopfedbhkfdjkaaGreatDoor


/- mesh: the leader of a point, found by its leader's. -/
namespace Go.Proofs.YtopfedbhkfdjkaaGreatDoor
open Go Go.RowKit
open Go.ChangeMaps (setBlock)
end Go.Proofs.YtopfedbhkfdjkaaGreatDoor


/- mesh: Shells. -/
namespace Go.Proofs.YtopfedbhkfdjkaaGreatDoor
open Go Go.RowKit
open Go.ChangeMaps (setBlock)
def cs (seen : Array Nat) : List (SV × SV)→Nat→Nat
 | [],_=>0
 | p :: l,n=>(if seen.contains n && decide (p.1=p.2) then 1 else 0)+cs seen l (n+1)
end Go.Proofs.YtopfedbhkfdjkaaGreatDoor
