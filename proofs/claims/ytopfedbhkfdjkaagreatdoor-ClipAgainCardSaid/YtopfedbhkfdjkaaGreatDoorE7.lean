
/- vector: the rational operations, coordinates, of. -/
import Derived.LoopN
import Derived.Test.YtopfedbhkfdjkaaGreatDoorE6
import Derived.Deep.DeepCutAuto
set_option linter.unusedVariables false
set_option linter.unusedSimpArgs false
namespace Go.Proofs.YtopfedbhkfdjkaaGreatDoor
open Go Go.RowKit
theorem rtx_zero : rtx 0=⟨#[48]⟩:=by
 rw [rtx_def]
 exact (itx_eq_zero 0).2 rfl
theorem rz_zero : rz 0=1:=by decide +kernel
def rsg (x : Rat) : Int:=rcmp x 0
set_option maxHeartbeats 400000 in
theorem vadd_walk (x y : Rat) (hx : rz x≤10000000) (hy : rz y≤10000000) (w : World) (hB : Bw w) :
  Calls Tryz.prog 119 #[.string (rtx x),.string (rtx y)] w fun e w'=>e=.returned (.string (rtx (x+y)))∧Below w.heap.size w w':=by
 have H:=Lib.hid (fun w hB=>rAdd_walk x y hx hy w hB)
 clear hx hy
 generalize rtx x=xs at *
 generalize rtx y=ys at *
 generalize rtx (x+y)=rs at *
 go_enter Tryz.func119,Tryz.ntmps119
 go_wp2_with fail
 refine (H.out _ (hB.below bel)).mono ?_
 rintro e w1 ⟨rfl,g1⟩
 have B1:=bn (w:=w) bel g1
 clear g1
 go_wp2
 go_ret
 exact ⟨rfl,bel⟩
set_option maxHeartbeats 400000 in
theorem vsub_walk (x y : Rat) (hx : rz x≤10000000) (hy : rz y≤10000000) (w : World) (hB : Bw w) :
  Calls Tryz.prog 76 #[.string (rtx x),.string (rtx y)] w fun e w'=>e=.returned (.string (rtx (x - y)))∧Below w.heap.size w w':=by
 have H:=Lib.hid (fun w hB=>rSub_walk x y hx hy w hB)
 clear hx hy
 generalize rtx x=xs at *
 generalize rtx y=ys at *
 generalize rtx (x - y)=rs at *
 go_enter Tryz.func76,Tryz.ntmps76
 go_wp2_with fail
 refine (H.out _ (hB.below bel)).mono ?_
 rintro e w1 ⟨rfl,g1⟩
 have B1:=bn (w:=w) bel g1
 clear g1
 go_wp2
 go_ret
 exact ⟨rfl,bel⟩
set_option maxHeartbeats 400000 in
theorem vmul_walk (x y : Rat) (hx : rz x≤10000000) (hy : rz y≤10000000) (w : World) (hB : Bw w) :
  Calls Tryz.prog 118 #[.string (rtx x),.string (rtx y)] w fun e w'=>e=.returned (.string (rtx (x * y)))∧Below w.heap.size w w':=by
 have H:=Lib.hid (fun w hB=>rMul_walk x y hx hy w hB)
 clear hx hy
 generalize rtx x=xs at *
 generalize rtx y=ys at *
 generalize rtx (x * y)=rs at *
 go_enter Tryz.func118,Tryz.ntmps118
 go_wp2_with fail
 refine (H.out _ (hB.below bel)).mono ?_
 rintro e w1 ⟨rfl,g1⟩
 have B1:=bn (w:=w) bel g1
 clear g1
 go_wp2
 go_ret
 exact ⟨rfl,bel⟩
set_option maxHeartbeats 400000 in
theorem vsign_walk (x : Rat) (hx : rz x≤10000000) (w : World) (hB : Bw w) :
  Calls Tryz.prog 64 #[.string (rtx x)] w fun e w'=>e=.returned (.int .i64 (rsg x))∧Below w.heap.size w w':=by
 have H:=Lib.hid (fun w hB=>rCompare_walk x 0 hx (by rw [rz_zero]; omega) w hB)
 rw [rtx_zero] at H
 unfold rsg
 clear hx
 generalize rtx x=xs at *
 generalize rcmp x 0=rs at *
 go_enter Tryz.func64,Tryz.ntmps64
 go_wp2_with fail
 refine (H.out _ (hB.below bel)).mono ?_
 rintro e w1 ⟨rfl,g1⟩
 have B1:=bn (w:=w) bel g1
 clear g1
 go_wp2
 go_ret
 exact ⟨rfl,bel⟩
set_option maxHeartbeats 400000 in
theorem coord_walk (a b c : ByteArray) (w : World) :
  Calls Tryz.prog 66 #[.agg #[.string a,.string b,.string c]] w fun e w'=>e=.returned (.agg #[.string a,.string b,.string c])∧Below w.heap.size w w':=by
 go_enter Tryz.func66,Tryz.ntmps66
 go_wp2
 refine bodyPost_ret (v:=.agg #[.string a,.string b,.string c]) (by simp [results,Tryz.results66,go_sem, *]) rfl ⟨(by first | rfl | rw [hI]),bel⟩
set_option maxHeartbeats 400000 in
theorem vof_walk (a b c : ByteArray) (w : World) :
  Calls Tryz.prog 114 #[.agg #[.string a,.string b,.string c]] w fun e w'=>e=.returned (.agg #[.string a,.string b,.string c])∧Below w.heap.size w w':=by
 go_enter Tryz.func114,Tryz.ntmps114
 go_wp2
 refine bodyPost_ret (v:=.agg #[.string a,.string b,.string c]) (by simp [results,Tryz.results114,go_sem, *]) rfl ⟨(by first | rfl | rw [hI]),bel⟩
structure SV where
 x : ByteArray
 y : ByteArray
 z : ByteArray
deriving DecidableEq
def SV.val (s : SV) : Value:=.agg #[.string s.x,.string s.y,.string s.z]
def isVec (s : SV) : Bool:=isRat s.x && isRat s.y && isRat s.z
def SV.le (s : SV) (k : Nat) : Prop:=s.x.size≤k∧s.y.size≤k∧s.z.size≤k
set_option maxHeartbeats 1000000 in
theorem vValid_0 (a b c : ByteArray) (w : World) (hB : Bw w)
  (h1 : ∀ w,Bw w→Calls Tryz.prog 67 #[.string a] w fun e w'=>e=.returned (.bool false)∧Below w.heap.size w w') :
  Calls Tryz.prog 32 #[.agg #[.string a,.string b,.string c]] w fun e w'=>e=.returned (.bool false)∧Below w.heap.size w w':=by
 have H1:=Lib.hid h1
 clear h1
 have i0 : ∀ w,(Instr.index 117 (.agg #[.string a,.string b,.string c]) (.int .i64 0)).run Tryz.prog w=.ok (.string a) w:=fun _=>by kernel_rfl
 have i1 : ∀ w,(Instr.index 117 (.agg #[.string a,.string b,.string c]) (.int .i64 1)).run Tryz.prog w=.ok (.string b) w:=fun _=>by kernel_rfl
 have i2 : ∀ w,(Instr.index 117 (.agg #[.string a,.string b,.string c]) (.int .i64 2)).run Tryz.prog w=.ok (.string c) w:=fun _=>by kernel_rfl
 go_enter Tryz.func32,Tryz.ntmps32
 go_wp2_with fail
 refine (coord_walk a b c _).mono ?_
 rintro e w0 ⟨rfl,g0⟩
 have B0:=bn (w:=w) bel g0
 clear g0
 go_wp2
 refine wp_loop_rounds 4 ?_
 rw [rounds_succ]
 go_wp2_with fail
 refine (H1.out _ (hB.below bel)).mono ?_
 rintro e w1 ⟨rfl,g1⟩
 have B1:=bn (w:=w) bel g1
 clear g1
 go_wp2
 go_ret
 exact ⟨rfl,bel⟩
set_option maxHeartbeats 1000000 in
theorem vValid_1 (a b c : ByteArray) (w : World) (hB : Bw w)
  (h1 : ∀ w,Bw w→Calls Tryz.prog 67 #[.string a] w fun e w'=>e=.returned (.bool true)∧Below w.heap.size w w')
  (h2 : ∀ w,Bw w→Calls Tryz.prog 67 #[.string b] w fun e w'=>e=.returned (.bool false)∧Below w.heap.size w w') :
  Calls Tryz.prog 32 #[.agg #[.string a,.string b,.string c]] w fun e w'=>e=.returned (.bool false)∧Below w.heap.size w w':=by
 have H1:=Lib.hid h1
 clear h1
 have H2:=Lib.hid h2
 clear h2
 have i0 : ∀ w,(Instr.index 117 (.agg #[.string a,.string b,.string c]) (.int .i64 0)).run Tryz.prog w=.ok (.string a) w:=fun _=>by kernel_rfl
 have i1 : ∀ w,(Instr.index 117 (.agg #[.string a,.string b,.string c]) (.int .i64 1)).run Tryz.prog w=.ok (.string b) w:=fun _=>by kernel_rfl
 have i2 : ∀ w,(Instr.index 117 (.agg #[.string a,.string b,.string c]) (.int .i64 2)).run Tryz.prog w=.ok (.string c) w:=fun _=>by kernel_rfl
 go_enter Tryz.func32,Tryz.ntmps32
 go_wp2_with fail
 refine (coord_walk a b c _).mono ?_
 rintro e w0 ⟨rfl,g0⟩
 have B0:=bn (w:=w) bel g0
 clear g0
 go_wp2
 refine wp_loop_rounds 4 ?_
 rw [rounds_succ]
 go_wp2_with fail
 refine (H1.out _ (hB.below bel)).mono ?_
 rintro e w1 ⟨rfl,g1⟩
 have B1:=bn (w:=w) bel g1
 clear g1
 go_wp2
 rw [rounds_succ]
 go_wp2_with fail
 refine (H2.out _ (hB.below bel)).mono ?_
 rintro e w2 ⟨rfl,g2⟩
 have B2:=bn (w:=w) bel g2
 clear g2
 go_wp2
 go_ret
 exact ⟨rfl,bel⟩
set_option maxHeartbeats 1000000 in
theorem vValid_2 (a b c : ByteArray) (w : World) (hB : Bw w)
  (h1 : ∀ w,Bw w→Calls Tryz.prog 67 #[.string a] w fun e w'=>e=.returned (.bool true)∧Below w.heap.size w w')
  (h2 : ∀ w,Bw w→Calls Tryz.prog 67 #[.string b] w fun e w'=>e=.returned (.bool true)∧Below w.heap.size w w')
  (h3 : ∀ w,Bw w→Calls Tryz.prog 67 #[.string c] w fun e w'=>e=.returned (.bool false)∧Below w.heap.size w w') :
  Calls Tryz.prog 32 #[.agg #[.string a,.string b,.string c]] w fun e w'=>e=.returned (.bool false)∧Below w.heap.size w w':=by
 have H1:=Lib.hid h1
 clear h1
 have H2:=Lib.hid h2
 clear h2
 have H3:=Lib.hid h3
 clear h3
 have i0 : ∀ w,(Instr.index 117 (.agg #[.string a,.string b,.string c]) (.int .i64 0)).run Tryz.prog w=.ok (.string a) w:=fun _=>by kernel_rfl
 have i1 : ∀ w,(Instr.index 117 (.agg #[.string a,.string b,.string c]) (.int .i64 1)).run Tryz.prog w=.ok (.string b) w:=fun _=>by kernel_rfl
 have i2 : ∀ w,(Instr.index 117 (.agg #[.string a,.string b,.string c]) (.int .i64 2)).run Tryz.prog w=.ok (.string c) w:=fun _=>by kernel_rfl
 go_enter Tryz.func32,Tryz.ntmps32
 go_wp2_with fail
 refine (coord_walk a b c _).mono ?_
 rintro e w0 ⟨rfl,g0⟩
 have B0:=bn (w:=w) bel g0
 clear g0
 go_wp2
 refine wp_loop_rounds 4 ?_
 rw [rounds_succ]
 go_wp2_with fail
 refine (H1.out _ (hB.below bel)).mono ?_
 rintro e w1 ⟨rfl,g1⟩
 have B1:=bn (w:=w) bel g1
 clear g1
 go_wp2
 rw [rounds_succ]
 go_wp2_with fail
 refine (H2.out _ (hB.below bel)).mono ?_
 rintro e w2 ⟨rfl,g2⟩
 have B2:=bn (w:=w) bel g2
 clear g2
 go_wp2
 rw [rounds_succ]
 go_wp2_with fail
 refine (H3.out _ (hB.below bel)).mono ?_
 rintro e w3 ⟨rfl,g3⟩
 have B3:=bn (w:=w) bel g3
 clear g3
 go_wp2
 go_ret
 exact ⟨rfl,bel⟩
set_option maxHeartbeats 1000000 in
theorem vValid_3 (a b c : ByteArray) (w : World) (hB : Bw w)
  (h1 : ∀ w,Bw w→Calls Tryz.prog 67 #[.string a] w fun e w'=>e=.returned (.bool true)∧Below w.heap.size w w')
  (h2 : ∀ w,Bw w→Calls Tryz.prog 67 #[.string b] w fun e w'=>e=.returned (.bool true)∧Below w.heap.size w w')
  (h3 : ∀ w,Bw w→Calls Tryz.prog 67 #[.string c] w fun e w'=>e=.returned (.bool true)∧Below w.heap.size w w') :
  Calls Tryz.prog 32 #[.agg #[.string a,.string b,.string c]] w fun e w'=>e=.returned (.bool true)∧Below w.heap.size w w':=by
 have H1:=Lib.hid h1
 clear h1
 have H2:=Lib.hid h2
 clear h2
 have H3:=Lib.hid h3
 clear h3
 have i0 : ∀ w,(Instr.index 117 (.agg #[.string a,.string b,.string c]) (.int .i64 0)).run Tryz.prog w=.ok (.string a) w:=fun _=>by kernel_rfl
 have i1 : ∀ w,(Instr.index 117 (.agg #[.string a,.string b,.string c]) (.int .i64 1)).run Tryz.prog w=.ok (.string b) w:=fun _=>by kernel_rfl
 have i2 : ∀ w,(Instr.index 117 (.agg #[.string a,.string b,.string c]) (.int .i64 2)).run Tryz.prog w=.ok (.string c) w:=fun _=>by kernel_rfl
 go_enter Tryz.func32,Tryz.ntmps32
 go_wp2_with fail
 refine (coord_walk a b c _).mono ?_
 rintro e w0 ⟨rfl,g0⟩
 have B0:=bn (w:=w) bel g0
 clear g0
 go_wp2
 refine wp_loop_rounds 4 ?_
 rw [rounds_succ]
 go_wp2_with fail
 refine (H1.out _ (hB.below bel)).mono ?_
 rintro e w1 ⟨rfl,g1⟩
 have B1:=bn (w:=w) bel g1
 clear g1
 go_wp2
 rw [rounds_succ]
 go_wp2_with fail
 refine (H2.out _ (hB.below bel)).mono ?_
 rintro e w2 ⟨rfl,g2⟩
 have B2:=bn (w:=w) bel g2
 clear g2
 go_wp2
 rw [rounds_succ]
 go_wp2_with fail
 refine (H3.out _ (hB.below bel)).mono ?_
 rintro e w3 ⟨rfl,g3⟩
 have B3:=bn (w:=w) bel g3
 clear g3
 go_wp2
 rw [rounds_succ]
 go_wp2
 go_ret
 exact ⟨rfl,bel⟩
theorem vValid_walk (s : SV) (hs : s.le 40000000) (w : World) (hB : Bw w) :
  Calls Tryz.prog 32 #[s.val] w fun e w'=>e=.returned (.bool (isVec s))∧Below w.heap.size w w':=by
 obtain ⟨a,b,c⟩:=s
 have H1:=fun w hB=>rValid_walk a hs.1 w hB
 have H2:=fun w hB=>rValid_walk b hs.2.1 w hB
 have H3:=fun w hB=>rValid_walk c hs.2.2 w hB
 unfold SV.val isVec
 dsimp only
 cases ha : isRat a
 ·rw [ha] at H1; exact vValid_0 a b c w hB H1
 ·cases hb : isRat b
  ·rw [ha] at H1; rw [hb] at H2; exact vValid_1 a b c w hB H1 H2
  ·cases hc : isRat c
   ·rw [ha] at H1; rw [hb] at H2; rw [hc] at H3; exact vValid_2 a b c w hB H1 H2 H3
   ·rw [ha] at H1; rw [hb] at H2; rw [hc] at H3; exact vValid_3 a b c w hB H1 H2 H3
end Go.Proofs.YtopfedbhkfdjkaaGreatDoor


/- Words for the walks: a block of the call's own, known whole. Plain lemmas on the model's worlds. -/
namespace Go.Proofs.YtopfedbhkfdjkaaGreatDoor
open Go Go.RowKit
structure Bk (w : World) (b : Nat) (vs : List Value) : Prop where
 lt : b<w.heap.size
 cell : ∀ i v,vs[i]?=some v→w.cell? ⟨b,i,none⟩=some v
 free : ∀ i,w.frozen? ⟨b,i,none⟩=false
theorem bk_new (w : World) (vs : Array Value) (t : TypeId) : Bk (w.alloc (.cells vs t)) w.heap.size vs.toList:=by
 refine ⟨by simp,fun i v h=>?_,fun i=>by simp⟩
 rw [Array.getElem?_toList] at h
 simp [h]
theorem bk_at {w : World} {vs : Array Value} {t : TypeId} {n : Nat} (hn : n=w.heap.size) : Bk (w.alloc (.cells vs t)) n vs.toList:=by
 subst hn; exact bk_new w vs t
theorem Bk.below {w w1 : World} {b : Nat} {vs : List Value} (h : Bk w b vs) (g : Below w.heap.size w w1) : Bk w1 b vs :=
 ⟨Nat.lt_of_lt_of_le h.lt g.size,fun i v hv=>bc g (h.cell i v hv),fun i=>bfz g h.lt (h.free i)⟩
theorem Bk.alloc {w : World} {b : Nat} {vs : List Value} (h : Bk w b vs) (o : Obj) : Bk (w.alloc o) b vs:=h.below (ba (br w))
theorem Bk.drew {w : World} {b : Nat} {vs : List Value} (h : Bk w b vs) : Bk w.drew b vs:=h.below (bd (br w))
theorem Bk.far {w : World} {b : Nat} {vs : List Value} (h : Bk w b vs) {p : Addr} (hp : p.block≠b) (u : Value) : Bk (w.setCell p u) b vs :=
 ⟨by have:=h.lt; simpa using this,fun i v hv=>cset (h.cell i v hv) hp,fun i=>by have:=h.free i; simpa using this⟩
theorem Bk.set {w : World} {b : Nat} {vs : List Value} (h : Bk w b vs) (i : Nat) (hi : i<vs.length) (u : Value) : Bk (w.setCell ⟨b,i,none⟩ u) b (vs.set i u):=by
 refine ⟨by have:=h.lt; simpa using this,fun j v hv=>?_,fun j=>by have:=h.free j; simpa using this⟩
 by_cases e : i=j
 ·subst e
  rw [List.getElem?_set_self hi] at hv
  cases hv
  have h0:=h.cell i vs[i] (List.getElem?_eq_getElem hi)
  exact World.cell?_setCell_same (h:=h0) ..
 ·rw [List.getElem?_set_ne e] at hv
  refine (World.cell?_setCell_other (h:=?_) ..).trans (h.cell j v hv)
  intro h; exact e (by injection h)
theorem Bk.c1 {w : World} {b : Nat} {x : Value} (h : Bk w b [x]) : w.cell? ⟨b,0,none⟩=some x∧w.frozen? ⟨b,0,none⟩=false:=⟨h.cell 0 x rfl,h.free 0⟩
theorem Bk.c2 {w : World} {b : Nat} {x y : Value} (h : Bk w b [x,y]) : w.cell? ⟨b,0,none⟩=some x∧w.cell? ⟨b,1,none⟩=some y∧w.frozen? ⟨b,0,none⟩=false∧w.frozen? ⟨b,1,none⟩=false :=
 ⟨h.cell 0 x rfl,h.cell 1 y rfl,h.free 0,h.free 1⟩
theorem Bk.c3 {w : World} {b : Nat} {x y z : Value} (h : Bk w b [x,y,z]) : w.cell? ⟨b,0,none⟩=some x∧w.cell? ⟨b,1,none⟩=some y∧w.cell? ⟨b,2,none⟩=some z∧w.frozen? ⟨b,0,none⟩=false∧w.frozen? ⟨b,1,none⟩=false∧w.frozen? ⟨b,2,none⟩=false :=
 ⟨h.cell 0 x rfl,h.cell 1 y rfl,h.cell 2 z rfl,h.free 0,h.free 1,h.free 2⟩
theorem bkk {w : World} {b : Nat} {vs : List Value} (h : Bk w b vs:=by repeat (first | with_reducible assumption | (refine Bk.drew ?_) | (refine bk_at ?_; (try simp); done) | (refine Bk.alloc ?_ _) | (refine Bk.far ?_ ?_ _; rotate_left; ((try simp)<;>omega)))) : Bk w b vs:=h
end Go.Proofs.YtopfedbhkfdjkaaGreatDoor


/- vector: zip. -/
namespace Go.Proofs.YtopfedbhkfdjkaaGreatDoor
open Go Go.RowKit
set_option maxHeartbeats 400000 in
theorem coord_exact (a b c : ByteArray) (w : World) :
  Calls Tryz.prog 66 #[.agg #[.string a,.string b,.string c]] w fun e w'=>e=.returned (.agg #[.string a,.string b,.string c])∧w'=(w.alloc (.cells #[.string a,.string b,.string c] 119)).alloc (.cells #[.string a,.string b,.string c] 117):=by
 go_enter Tryz.func66,Tryz.ntmps66
 go_wp2
 refine bodyPost_ret (v:=.agg #[.string a,.string b,.string c]) (by simp [results,Tryz.results66,go_sem, *]) rfl ⟨rfl, ?_⟩
 go_simp
set_option maxHeartbeats 4000000 in
theorem zip_add (a1 a2 a3 b1 b2 b3 r1 r2 r3 : ByteArray) (w : World) (hB : Bw w)
  (h1 : ∀ w,Bw w→Calls Tryz.prog 119 #[.string a1,.string b1] w fun e w'=>e=.returned (.string r1)∧Below w.heap.size w w')
  (h2 : ∀ w,Bw w→Calls Tryz.prog 119 #[.string a2,.string b2] w fun e w'=>e=.returned (.string r2)∧Below w.heap.size w w')
  (h3 : ∀ w,Bw w→Calls Tryz.prog 119 #[.string a3,.string b3] w fun e w'=>e=.returned (.string r3)∧Below w.heap.size w w') :
  Calls Tryz.prog 117 #[.func (.func 119) #[] #[],.agg #[.string a1,.string a2,.string a3],.agg #[.string b1,.string b2,.string b3]] w fun e w'=>e=.returned (.agg #[.string r1,.string r2,.string r3])∧Below w.heap.size w w':=by
 have H1:=Lib.hid h1
 have H2:=Lib.hid h2
 have H3:=Lib.hid h3
 have K1:=Lib.hid (fun w=>coord_exact a1 a2 a3 w)
 have K2:=Lib.hid (fun w=>coord_exact b1 b2 b3 w)
 clear h1 h2 h3
 go_enter Tryz.func117,Tryz.ntmps117
 go_upto_region 1 with fail
 go_cut [7,8] (fun s7 s8 wx=>∃ p q : Nat,s7=.pointer (some ⟨p,0,none⟩)∧s8=.pointer (some ⟨q,0,none⟩)∧w.heap.size+2<p∧w.heap.size+2<q∧Hid (Bk wx p [.string a1,.string a2,.string a3])∧Hid (Bk wx q [.string b1,.string b2,.string b3])∧Hid (Bk wx (w.heap.size+1+1) [.string ⟨#[]⟩,.string ⟨#[]⟩,.string ⟨#[]⟩])∧Below w.heap.size w wx)
 case first =>
  go_region_held3 (fun w'=>w'.cell? ⟨w.heap.size,0,none⟩=some (.string a1)∧w'.cell? ⟨w.heap.size,1,none⟩=some (.string a2)∧w'.cell? ⟨w.heap.size,2,none⟩=some (.string a3)∧w'.cell? ⟨w.heap.size+1,0,none⟩=some (.string b1)∧w'.cell? ⟨w.heap.size+1,1,none⟩=some (.string b2)∧w'.cell? ⟨w.heap.size+1,2,none⟩=some (.string b3))
   (refine ⟨?_, ?_, ?_, ?_, ?_, ?_⟩<;>first | with_reducible assumption | (go_simp; done))
   (first | (go_at_call_of 66 (Value.agg #[.string a1,.string a2,.string a3]); refine (K1.out _).mono ?_; rintro e w1 ⟨rfl,rfl⟩) | (go_at_call_of 66 (Value.agg #[.string b1,.string b2,.string b3]); refine (K2.out _).mono ?_; rintro e w1 ⟨rfl,rfl⟩))
  all_goals
   go_wp2_with fail
   go_meet
   exact ⟨_,_,rfl,rfl,by omega,by omega,Lib.hid bkk,Lib.hid bkk,Lib.hid bkk,bel⟩
 case rest =>
  obtain ⟨p,q,rfl,rfl,hp,hq,HP,HQ,HR,HW⟩:=hcut
  have hpl:=HP.out.lt
  have hql:=HQ.out.lt
  have hrl:=HR.out.lt
  have HO0 : Hid (Bk (wc.alloc (.cells #[.string ⟨#[]⟩,.string ⟨#[]⟩,.string ⟨#[]⟩] 117)) wc.heap.size [.string ⟨#[]⟩,.string ⟨#[]⟩,.string ⟨#[]⟩]):=Lib.hid (bk_new _ _ _)
  have HP0:=Lib.hid (HP.out.alloc (.cells #[.string ⟨#[]⟩,.string ⟨#[]⟩,.string ⟨#[]⟩] 117))
  have HQ0:=Lib.hid (HQ.out.alloc (.cells #[.string ⟨#[]⟩,.string ⟨#[]⟩,.string ⟨#[]⟩] 117))
  have HR0:=Lib.hid (HR.out.alloc (.cells #[.string ⟨#[]⟩,.string ⟨#[]⟩,.string ⟨#[]⟩] 117))
  have B0 : Below w.heap.size w (wc.alloc (.cells #[.string ⟨#[]⟩,.string ⟨#[]⟩,.string ⟨#[]⟩] 117)):=ba HW
  clear HP HQ HR HW
  go_wp2
  refine wp_loop_rounds 4 ?_
  rw [rounds_succ]
  obtain ⟨x0,x1,x2, -, -, -⟩:=HP0.out.c3
  obtain ⟨y0,y1,y2, -, -, -⟩:=HQ0.out.c3
  go_wp2
  go_region_held3 (fun w'=>w'.cell? ⟨p,0,none⟩=some (.string a1)∧w'.cell? ⟨q,0,none⟩=some (.string b1)∧Below w.heap.size w w')
   ((go_split_ands; refine ⟨?_, ?_, ?_⟩<;>first | (refine bc g1 ?_; with_reducible assumption) | (refine bn ?_ g1; with_reducible assumption) | (refine cset ?_ ?_<;>first | with_reducible assumption | ((try simp)<;>omega)) | (go_simp; done) | exact bel))
   (first | (go_at_call 119; refine (H1.out _ (hB.below (by go_split_ands; assumption))).mono ?_; rintro e w1 ⟨rfl,g1⟩; obtain ⟨o0,o1,o2,f0,f1,f2⟩:=(HO0.out.drew.below g1).c3; have hz1 : wc.heap.size<w1.heap.size:=(HO0.out.drew.below g1).lt))
  have HO1:=Lib.hid ((HO0.out.drew.below g1).set 0 (by simp) (.string r1))
  have HP1:=Lib.hid ((HP0.out.drew.below g1).far (p:=⟨wc.heap.size,0,none⟩) (by dsimp only; omega) (.string r1))
  have HQ1:=Lib.hid ((HQ0.out.drew.below g1).far (p:=⟨wc.heap.size,0,none⟩) (by dsimp only; omega) (.string r1))
  have HR1:=Lib.hid ((HR0.out.drew.below g1).far (p:=⟨wc.heap.size,0,none⟩) (by dsimp only; omega) (.string r1))
  have B1 : Below w.heap.size w (w1.setCell ⟨wc.heap.size,0,none⟩ (.string r1)):=bs (bn (bd B0) g1) (by dsimp only; omega)
  clear g1 HO0 HP0 HQ0 HR0 x0 x1 x2 y0 y1 y2 o0 o1 o2 f0 f1 f2 B0
  go_wp2
  rw [rounds_succ]
  obtain ⟨x0,x1,x2, -, -, -⟩:=HP1.out.c3
  obtain ⟨y0,y1,y2, -, -, -⟩:=HQ1.out.c3
  go_wp2
  go_region_held3 (fun w'=>w'.cell? ⟨p,1,none⟩=some (.string a2)∧w'.cell? ⟨q,1,none⟩=some (.string b2)∧Below w.heap.size w w')
   ((go_split_ands; refine ⟨?_, ?_, ?_⟩<;>first | (refine bc g2 ?_; with_reducible assumption) | (refine bn ?_ g2; with_reducible assumption) | (refine cset ?_ ?_<;>first | with_reducible assumption | ((try simp)<;>omega)) | (go_simp; done) | exact bel))
   (first | (go_at_call 119; refine (H2.out _ (hB.below (by go_split_ands; assumption))).mono ?_; rintro e w2 ⟨rfl,g2⟩; obtain ⟨o0,o1,o2,f0,f1,f2⟩:=(HO1.out.drew.below g2).c3; have hz2 : wc.heap.size<w2.heap.size:=(HO1.out.drew.below g2).lt))
  have HO2:=Lib.hid ((HO1.out.drew.below g2).set 1 (by simp) (.string r2))
  have HP2:=Lib.hid ((HP1.out.drew.below g2).far (p:=⟨wc.heap.size,1,none⟩) (by dsimp only; omega) (.string r2))
  have HQ2:=Lib.hid ((HQ1.out.drew.below g2).far (p:=⟨wc.heap.size,1,none⟩) (by dsimp only; omega) (.string r2))
  have HR2:=Lib.hid ((HR1.out.drew.below g2).far (p:=⟨wc.heap.size,1,none⟩) (by dsimp only; omega) (.string r2))
  have B2 : Below w.heap.size w (w2.setCell ⟨wc.heap.size,1,none⟩ (.string r2)):=bs (bn (bd B1) g2) (by dsimp only; omega)
  clear g2 HO1 HP1 HQ1 HR1 x0 x1 x2 y0 y1 y2 o0 o1 o2 f0 f1 f2 B1
  go_wp2
  rw [rounds_succ]
  obtain ⟨x0,x1,x2, -, -, -⟩:=HP2.out.c3
  obtain ⟨y0,y1,y2, -, -, -⟩:=HQ2.out.c3
  go_wp2
  go_region_held3 (fun w'=>w'.cell? ⟨p,2,none⟩=some (.string a3)∧w'.cell? ⟨q,2,none⟩=some (.string b3)∧Below w.heap.size w w')
   ((go_split_ands; refine ⟨?_, ?_, ?_⟩<;>first | (refine bc g3 ?_; with_reducible assumption) | (refine bn ?_ g3; with_reducible assumption) | (refine cset ?_ ?_<;>first | with_reducible assumption | ((try simp)<;>omega)) | (go_simp; done) | exact bel))
   (first | (go_at_call 119; refine (H3.out _ (hB.below (by go_split_ands; assumption))).mono ?_; rintro e w3 ⟨rfl,g3⟩; obtain ⟨o0,o1,o2,f0,f1,f2⟩:=(HO2.out.drew.below g3).c3; have hz3 : wc.heap.size<w3.heap.size:=(HO2.out.drew.below g3).lt))
  have HO3:=Lib.hid ((HO2.out.drew.below g3).set 2 (by simp) (.string r3))
  have HP3:=Lib.hid ((HP2.out.drew.below g3).far (p:=⟨wc.heap.size,2,none⟩) (by dsimp only; omega) (.string r3))
  have HQ3:=Lib.hid ((HQ2.out.drew.below g3).far (p:=⟨wc.heap.size,2,none⟩) (by dsimp only; omega) (.string r3))
  have HR3:=Lib.hid ((HR2.out.drew.below g3).far (p:=⟨wc.heap.size,2,none⟩) (by dsimp only; omega) (.string r3))
  have B3 : Below w.heap.size w (w3.setCell ⟨wc.heap.size,2,none⟩ (.string r3)):=bs (bn (bd B2) g3) (by dsimp only; omega)
  clear g3 HO2 HP2 HQ2 HR2 x0 x1 x2 y0 y1 y2 o0 o1 o2 f0 f1 f2 B2
  go_wp2
  rw [rounds_succ]
  obtain ⟨o0,o1,o2, -, -, -⟩:=HO3.out.c3
  go_wp2_with fail
  refine (vof_walk _ _ _ _).mono ?_
  rintro e w9 ⟨rfl,g9⟩
  obtain ⟨q0,q1,q2,f0,f1,f2⟩:=(HR3.out.below g9).c3
  have hz9 : w.heap.size+2<w9.heap.size:=hzs g9
  have B9:=bn (w:=w) bel g9
  clear g9 HO3 HP3 HQ3 HR3 o0 o1 o2
  go_wp2
  refine bodyPost_ret (v:=.agg #[.string r1,.string r2,.string r3]) (by simp [results,Tryz.results117,go_sem, *]) rfl ⟨(by first | rfl | rw [hI]),bel⟩
set_option maxHeartbeats 4000000 in
theorem zip_sub (a1 a2 a3 b1 b2 b3 r1 r2 r3 : ByteArray) (w : World) (hB : Bw w)
  (h1 : ∀ w,Bw w→Calls Tryz.prog 76 #[.string a1,.string b1] w fun e w'=>e=.returned (.string r1)∧Below w.heap.size w w')
  (h2 : ∀ w,Bw w→Calls Tryz.prog 76 #[.string a2,.string b2] w fun e w'=>e=.returned (.string r2)∧Below w.heap.size w w')
  (h3 : ∀ w,Bw w→Calls Tryz.prog 76 #[.string a3,.string b3] w fun e w'=>e=.returned (.string r3)∧Below w.heap.size w w') :
  Calls Tryz.prog 117 #[.func (.func 76) #[] #[],.agg #[.string a1,.string a2,.string a3],.agg #[.string b1,.string b2,.string b3]] w fun e w'=>e=.returned (.agg #[.string r1,.string r2,.string r3])∧Below w.heap.size w w':=by
 have H1:=Lib.hid h1
 have H2:=Lib.hid h2
 have H3:=Lib.hid h3
 have K1:=Lib.hid (fun w=>coord_exact a1 a2 a3 w)
 have K2:=Lib.hid (fun w=>coord_exact b1 b2 b3 w)
 clear h1 h2 h3
 go_enter Tryz.func117,Tryz.ntmps117
 go_upto_region 1 with fail
 go_cut [7,8] (fun s7 s8 wx=>∃ p q : Nat,s7=.pointer (some ⟨p,0,none⟩)∧s8=.pointer (some ⟨q,0,none⟩)∧w.heap.size+2<p∧w.heap.size+2<q∧Hid (Bk wx p [.string a1,.string a2,.string a3])∧Hid (Bk wx q [.string b1,.string b2,.string b3])∧Hid (Bk wx (w.heap.size+1+1) [.string ⟨#[]⟩,.string ⟨#[]⟩,.string ⟨#[]⟩])∧Below w.heap.size w wx)
 case first =>
  go_region_held3 (fun w'=>w'.cell? ⟨w.heap.size,0,none⟩=some (.string a1)∧w'.cell? ⟨w.heap.size,1,none⟩=some (.string a2)∧w'.cell? ⟨w.heap.size,2,none⟩=some (.string a3)∧w'.cell? ⟨w.heap.size+1,0,none⟩=some (.string b1)∧w'.cell? ⟨w.heap.size+1,1,none⟩=some (.string b2)∧w'.cell? ⟨w.heap.size+1,2,none⟩=some (.string b3))
   (refine ⟨?_, ?_, ?_, ?_, ?_, ?_⟩<;>first | with_reducible assumption | (go_simp; done))
   (first | (go_at_call_of 66 (Value.agg #[.string a1,.string a2,.string a3]); refine (K1.out _).mono ?_; rintro e w1 ⟨rfl,rfl⟩) | (go_at_call_of 66 (Value.agg #[.string b1,.string b2,.string b3]); refine (K2.out _).mono ?_; rintro e w1 ⟨rfl,rfl⟩))
  all_goals
   go_wp2_with fail
   go_meet
   exact ⟨_,_,rfl,rfl,by omega,by omega,Lib.hid bkk,Lib.hid bkk,Lib.hid bkk,bel⟩
 case rest =>
  obtain ⟨p,q,rfl,rfl,hp,hq,HP,HQ,HR,HW⟩:=hcut
  have hpl:=HP.out.lt
  have hql:=HQ.out.lt
  have hrl:=HR.out.lt
  have HO0 : Hid (Bk (wc.alloc (.cells #[.string ⟨#[]⟩,.string ⟨#[]⟩,.string ⟨#[]⟩] 117)) wc.heap.size [.string ⟨#[]⟩,.string ⟨#[]⟩,.string ⟨#[]⟩]):=Lib.hid (bk_new _ _ _)
  have HP0:=Lib.hid (HP.out.alloc (.cells #[.string ⟨#[]⟩,.string ⟨#[]⟩,.string ⟨#[]⟩] 117))
  have HQ0:=Lib.hid (HQ.out.alloc (.cells #[.string ⟨#[]⟩,.string ⟨#[]⟩,.string ⟨#[]⟩] 117))
  have HR0:=Lib.hid (HR.out.alloc (.cells #[.string ⟨#[]⟩,.string ⟨#[]⟩,.string ⟨#[]⟩] 117))
  have B0 : Below w.heap.size w (wc.alloc (.cells #[.string ⟨#[]⟩,.string ⟨#[]⟩,.string ⟨#[]⟩] 117)):=ba HW
  clear HP HQ HR HW
  go_wp2
  refine wp_loop_rounds 4 ?_
  rw [rounds_succ]
  obtain ⟨x0,x1,x2, -, -, -⟩:=HP0.out.c3
  obtain ⟨y0,y1,y2, -, -, -⟩:=HQ0.out.c3
  go_wp2
  go_region_held3 (fun w'=>w'.cell? ⟨p,0,none⟩=some (.string a1)∧w'.cell? ⟨q,0,none⟩=some (.string b1)∧Below w.heap.size w w')
   ((go_split_ands; refine ⟨?_, ?_, ?_⟩<;>first | (refine bc g1 ?_; with_reducible assumption) | (refine bn ?_ g1; with_reducible assumption) | (refine cset ?_ ?_<;>first | with_reducible assumption | ((try simp)<;>omega)) | (go_simp; done) | exact bel))
   (first | (go_at_call 76; refine (H1.out _ (hB.below (by go_split_ands; assumption))).mono ?_; rintro e w1 ⟨rfl,g1⟩; obtain ⟨o0,o1,o2,f0,f1,f2⟩:=(HO0.out.drew.below g1).c3; have hz1 : wc.heap.size<w1.heap.size:=(HO0.out.drew.below g1).lt))
  have HO1:=Lib.hid ((HO0.out.drew.below g1).set 0 (by simp) (.string r1))
  have HP1:=Lib.hid ((HP0.out.drew.below g1).far (p:=⟨wc.heap.size,0,none⟩) (by dsimp only; omega) (.string r1))
  have HQ1:=Lib.hid ((HQ0.out.drew.below g1).far (p:=⟨wc.heap.size,0,none⟩) (by dsimp only; omega) (.string r1))
  have HR1:=Lib.hid ((HR0.out.drew.below g1).far (p:=⟨wc.heap.size,0,none⟩) (by dsimp only; omega) (.string r1))
  have B1 : Below w.heap.size w (w1.setCell ⟨wc.heap.size,0,none⟩ (.string r1)):=bs (bn (bd B0) g1) (by dsimp only; omega)
  clear g1 HO0 HP0 HQ0 HR0 x0 x1 x2 y0 y1 y2 o0 o1 o2 f0 f1 f2 B0
  go_wp2
  rw [rounds_succ]
  obtain ⟨x0,x1,x2, -, -, -⟩:=HP1.out.c3
  obtain ⟨y0,y1,y2, -, -, -⟩:=HQ1.out.c3
  go_wp2
  go_region_held3 (fun w'=>w'.cell? ⟨p,1,none⟩=some (.string a2)∧w'.cell? ⟨q,1,none⟩=some (.string b2)∧Below w.heap.size w w')
   ((go_split_ands; refine ⟨?_, ?_, ?_⟩<;>first | (refine bc g2 ?_; with_reducible assumption) | (refine bn ?_ g2; with_reducible assumption) | (refine cset ?_ ?_<;>first | with_reducible assumption | ((try simp)<;>omega)) | (go_simp; done) | exact bel))
   (first | (go_at_call 76; refine (H2.out _ (hB.below (by go_split_ands; assumption))).mono ?_; rintro e w2 ⟨rfl,g2⟩; obtain ⟨o0,o1,o2,f0,f1,f2⟩:=(HO1.out.drew.below g2).c3; have hz2 : wc.heap.size<w2.heap.size:=(HO1.out.drew.below g2).lt))
  have HO2:=Lib.hid ((HO1.out.drew.below g2).set 1 (by simp) (.string r2))
  have HP2:=Lib.hid ((HP1.out.drew.below g2).far (p:=⟨wc.heap.size,1,none⟩) (by dsimp only; omega) (.string r2))
  have HQ2:=Lib.hid ((HQ1.out.drew.below g2).far (p:=⟨wc.heap.size,1,none⟩) (by dsimp only; omega) (.string r2))
  have HR2:=Lib.hid ((HR1.out.drew.below g2).far (p:=⟨wc.heap.size,1,none⟩) (by dsimp only; omega) (.string r2))
  have B2 : Below w.heap.size w (w2.setCell ⟨wc.heap.size,1,none⟩ (.string r2)):=bs (bn (bd B1) g2) (by dsimp only; omega)
  clear g2 HO1 HP1 HQ1 HR1 x0 x1 x2 y0 y1 y2 o0 o1 o2 f0 f1 f2 B1
  go_wp2
  rw [rounds_succ]
  obtain ⟨x0,x1,x2, -, -, -⟩:=HP2.out.c3
  obtain ⟨y0,y1,y2, -, -, -⟩:=HQ2.out.c3
  go_wp2
  go_region_held3 (fun w'=>w'.cell? ⟨p,2,none⟩=some (.string a3)∧w'.cell? ⟨q,2,none⟩=some (.string b3)∧Below w.heap.size w w')
   ((go_split_ands; refine ⟨?_, ?_, ?_⟩<;>first | (refine bc g3 ?_; with_reducible assumption) | (refine bn ?_ g3; with_reducible assumption) | (refine cset ?_ ?_<;>first | with_reducible assumption | ((try simp)<;>omega)) | (go_simp; done) | exact bel))
   (first | (go_at_call 76; refine (H3.out _ (hB.below (by go_split_ands; assumption))).mono ?_; rintro e w3 ⟨rfl,g3⟩; obtain ⟨o0,o1,o2,f0,f1,f2⟩:=(HO2.out.drew.below g3).c3; have hz3 : wc.heap.size<w3.heap.size:=(HO2.out.drew.below g3).lt))
  have HO3:=Lib.hid ((HO2.out.drew.below g3).set 2 (by simp) (.string r3))
  have HP3:=Lib.hid ((HP2.out.drew.below g3).far (p:=⟨wc.heap.size,2,none⟩) (by dsimp only; omega) (.string r3))
  have HQ3:=Lib.hid ((HQ2.out.drew.below g3).far (p:=⟨wc.heap.size,2,none⟩) (by dsimp only; omega) (.string r3))
  have HR3:=Lib.hid ((HR2.out.drew.below g3).far (p:=⟨wc.heap.size,2,none⟩) (by dsimp only; omega) (.string r3))
  have B3 : Below w.heap.size w (w3.setCell ⟨wc.heap.size,2,none⟩ (.string r3)):=bs (bn (bd B2) g3) (by dsimp only; omega)
  clear g3 HO2 HP2 HQ2 HR2 x0 x1 x2 y0 y1 y2 o0 o1 o2 f0 f1 f2 B2
  go_wp2
  rw [rounds_succ]
  obtain ⟨o0,o1,o2, -, -, -⟩:=HO3.out.c3
  go_wp2_with fail
  refine (vof_walk _ _ _ _).mono ?_
  rintro e w9 ⟨rfl,g9⟩
  obtain ⟨q0,q1,q2,f0,f1,f2⟩:=(HR3.out.below g9).c3
  have hz9 : w.heap.size+2<w9.heap.size:=hzs g9
  have B9:=bn (w:=w) bel g9
  clear g9 HO3 HP3 HQ3 HR3 o0 o1 o2
  go_wp2
  refine bodyPost_ret (v:=.agg #[.string r1,.string r2,.string r3]) (by simp [results,Tryz.results117,go_sem, *]) rfl ⟨(by first | rfl | rw [hI]),bel⟩
set_option maxHeartbeats 4000000 in
theorem zip_mul (a1 a2 a3 b1 b2 b3 r1 r2 r3 : ByteArray) (w : World) (hB : Bw w)
  (h1 : ∀ w,Bw w→Calls Tryz.prog 118 #[.string a1,.string b1] w fun e w'=>e=.returned (.string r1)∧Below w.heap.size w w')
  (h2 : ∀ w,Bw w→Calls Tryz.prog 118 #[.string a2,.string b2] w fun e w'=>e=.returned (.string r2)∧Below w.heap.size w w')
  (h3 : ∀ w,Bw w→Calls Tryz.prog 118 #[.string a3,.string b3] w fun e w'=>e=.returned (.string r3)∧Below w.heap.size w w') :
  Calls Tryz.prog 117 #[.func (.func 118) #[] #[],.agg #[.string a1,.string a2,.string a3],.agg #[.string b1,.string b2,.string b3]] w fun e w'=>e=.returned (.agg #[.string r1,.string r2,.string r3])∧Below w.heap.size w w':=by
 have H1:=Lib.hid h1
 have H2:=Lib.hid h2
 have H3:=Lib.hid h3
 have K1:=Lib.hid (fun w=>coord_exact a1 a2 a3 w)
 have K2:=Lib.hid (fun w=>coord_exact b1 b2 b3 w)
 clear h1 h2 h3
 go_enter Tryz.func117,Tryz.ntmps117
 go_upto_region 1 with fail
 go_cut [7,8] (fun s7 s8 wx=>∃ p q : Nat,s7=.pointer (some ⟨p,0,none⟩)∧s8=.pointer (some ⟨q,0,none⟩)∧w.heap.size+2<p∧w.heap.size+2<q∧Hid (Bk wx p [.string a1,.string a2,.string a3])∧Hid (Bk wx q [.string b1,.string b2,.string b3])∧Hid (Bk wx (w.heap.size+1+1) [.string ⟨#[]⟩,.string ⟨#[]⟩,.string ⟨#[]⟩])∧Below w.heap.size w wx)
 case first =>
  go_region_held3 (fun w'=>w'.cell? ⟨w.heap.size,0,none⟩=some (.string a1)∧w'.cell? ⟨w.heap.size,1,none⟩=some (.string a2)∧w'.cell? ⟨w.heap.size,2,none⟩=some (.string a3)∧w'.cell? ⟨w.heap.size+1,0,none⟩=some (.string b1)∧w'.cell? ⟨w.heap.size+1,1,none⟩=some (.string b2)∧w'.cell? ⟨w.heap.size+1,2,none⟩=some (.string b3))
   (refine ⟨?_, ?_, ?_, ?_, ?_, ?_⟩<;>first | with_reducible assumption | (go_simp; done))
   (first | (go_at_call_of 66 (Value.agg #[.string a1,.string a2,.string a3]); refine (K1.out _).mono ?_; rintro e w1 ⟨rfl,rfl⟩) | (go_at_call_of 66 (Value.agg #[.string b1,.string b2,.string b3]); refine (K2.out _).mono ?_; rintro e w1 ⟨rfl,rfl⟩))
  all_goals
   go_wp2_with fail
   go_meet
   exact ⟨_,_,rfl,rfl,by omega,by omega,Lib.hid bkk,Lib.hid bkk,Lib.hid bkk,bel⟩
 case rest =>
  obtain ⟨p,q,rfl,rfl,hp,hq,HP,HQ,HR,HW⟩:=hcut
  have hpl:=HP.out.lt
  have hql:=HQ.out.lt
  have hrl:=HR.out.lt
  have HO0 : Hid (Bk (wc.alloc (.cells #[.string ⟨#[]⟩,.string ⟨#[]⟩,.string ⟨#[]⟩] 117)) wc.heap.size [.string ⟨#[]⟩,.string ⟨#[]⟩,.string ⟨#[]⟩]):=Lib.hid (bk_new _ _ _)
  have HP0:=Lib.hid (HP.out.alloc (.cells #[.string ⟨#[]⟩,.string ⟨#[]⟩,.string ⟨#[]⟩] 117))
  have HQ0:=Lib.hid (HQ.out.alloc (.cells #[.string ⟨#[]⟩,.string ⟨#[]⟩,.string ⟨#[]⟩] 117))
  have HR0:=Lib.hid (HR.out.alloc (.cells #[.string ⟨#[]⟩,.string ⟨#[]⟩,.string ⟨#[]⟩] 117))
  have B0 : Below w.heap.size w (wc.alloc (.cells #[.string ⟨#[]⟩,.string ⟨#[]⟩,.string ⟨#[]⟩] 117)):=ba HW
  clear HP HQ HR HW
  go_wp2
  refine wp_loop_rounds 4 ?_
  rw [rounds_succ]
  obtain ⟨x0,x1,x2, -, -, -⟩:=HP0.out.c3
  obtain ⟨y0,y1,y2, -, -, -⟩:=HQ0.out.c3
  go_wp2
  go_region_held3 (fun w'=>w'.cell? ⟨p,0,none⟩=some (.string a1)∧w'.cell? ⟨q,0,none⟩=some (.string b1)∧Below w.heap.size w w')
   ((go_split_ands; refine ⟨?_, ?_, ?_⟩<;>first | (refine bc g1 ?_; with_reducible assumption) | (refine bn ?_ g1; with_reducible assumption) | (refine cset ?_ ?_<;>first | with_reducible assumption | ((try simp)<;>omega)) | (go_simp; done) | exact bel))
   (first | (go_at_call 118; refine (H1.out _ (hB.below (by go_split_ands; assumption))).mono ?_; rintro e w1 ⟨rfl,g1⟩; obtain ⟨o0,o1,o2,f0,f1,f2⟩:=(HO0.out.drew.below g1).c3; have hz1 : wc.heap.size<w1.heap.size:=(HO0.out.drew.below g1).lt))
  have HO1:=Lib.hid ((HO0.out.drew.below g1).set 0 (by simp) (.string r1))
  have HP1:=Lib.hid ((HP0.out.drew.below g1).far (p:=⟨wc.heap.size,0,none⟩) (by dsimp only; omega) (.string r1))
  have HQ1:=Lib.hid ((HQ0.out.drew.below g1).far (p:=⟨wc.heap.size,0,none⟩) (by dsimp only; omega) (.string r1))
  have HR1:=Lib.hid ((HR0.out.drew.below g1).far (p:=⟨wc.heap.size,0,none⟩) (by dsimp only; omega) (.string r1))
  have B1 : Below w.heap.size w (w1.setCell ⟨wc.heap.size,0,none⟩ (.string r1)):=bs (bn (bd B0) g1) (by dsimp only; omega)
  clear g1 HO0 HP0 HQ0 HR0 x0 x1 x2 y0 y1 y2 o0 o1 o2 f0 f1 f2 B0
  go_wp2
  rw [rounds_succ]
  obtain ⟨x0,x1,x2, -, -, -⟩:=HP1.out.c3
  obtain ⟨y0,y1,y2, -, -, -⟩:=HQ1.out.c3
  go_wp2
  go_region_held3 (fun w'=>w'.cell? ⟨p,1,none⟩=some (.string a2)∧w'.cell? ⟨q,1,none⟩=some (.string b2)∧Below w.heap.size w w')
   ((go_split_ands; refine ⟨?_, ?_, ?_⟩<;>first | (refine bc g2 ?_; with_reducible assumption) | (refine bn ?_ g2; with_reducible assumption) | (refine cset ?_ ?_<;>first | with_reducible assumption | ((try simp)<;>omega)) | (go_simp; done) | exact bel))
   (first | (go_at_call 118; refine (H2.out _ (hB.below (by go_split_ands; assumption))).mono ?_; rintro e w2 ⟨rfl,g2⟩; obtain ⟨o0,o1,o2,f0,f1,f2⟩:=(HO1.out.drew.below g2).c3; have hz2 : wc.heap.size<w2.heap.size:=(HO1.out.drew.below g2).lt))
  have HO2:=Lib.hid ((HO1.out.drew.below g2).set 1 (by simp) (.string r2))
  have HP2:=Lib.hid ((HP1.out.drew.below g2).far (p:=⟨wc.heap.size,1,none⟩) (by dsimp only; omega) (.string r2))
  have HQ2:=Lib.hid ((HQ1.out.drew.below g2).far (p:=⟨wc.heap.size,1,none⟩) (by dsimp only; omega) (.string r2))
  have HR2:=Lib.hid ((HR1.out.drew.below g2).far (p:=⟨wc.heap.size,1,none⟩) (by dsimp only; omega) (.string r2))
  have B2 : Below w.heap.size w (w2.setCell ⟨wc.heap.size,1,none⟩ (.string r2)):=bs (bn (bd B1) g2) (by dsimp only; omega)
  clear g2 HO1 HP1 HQ1 HR1 x0 x1 x2 y0 y1 y2 o0 o1 o2 f0 f1 f2 B1
  go_wp2
  rw [rounds_succ]
  obtain ⟨x0,x1,x2, -, -, -⟩:=HP2.out.c3
  obtain ⟨y0,y1,y2, -, -, -⟩:=HQ2.out.c3
  go_wp2
  go_region_held3 (fun w'=>w'.cell? ⟨p,2,none⟩=some (.string a3)∧w'.cell? ⟨q,2,none⟩=some (.string b3)∧Below w.heap.size w w')
   ((go_split_ands; refine ⟨?_, ?_, ?_⟩<;>first | (refine bc g3 ?_; with_reducible assumption) | (refine bn ?_ g3; with_reducible assumption) | (refine cset ?_ ?_<;>first | with_reducible assumption | ((try simp)<;>omega)) | (go_simp; done) | exact bel))
   (first | (go_at_call 118; refine (H3.out _ (hB.below (by go_split_ands; assumption))).mono ?_; rintro e w3 ⟨rfl,g3⟩; obtain ⟨o0,o1,o2,f0,f1,f2⟩:=(HO2.out.drew.below g3).c3; have hz3 : wc.heap.size<w3.heap.size:=(HO2.out.drew.below g3).lt))
  have HO3:=Lib.hid ((HO2.out.drew.below g3).set 2 (by simp) (.string r3))
  have HP3:=Lib.hid ((HP2.out.drew.below g3).far (p:=⟨wc.heap.size,2,none⟩) (by dsimp only; omega) (.string r3))
  have HQ3:=Lib.hid ((HQ2.out.drew.below g3).far (p:=⟨wc.heap.size,2,none⟩) (by dsimp only; omega) (.string r3))
  have HR3:=Lib.hid ((HR2.out.drew.below g3).far (p:=⟨wc.heap.size,2,none⟩) (by dsimp only; omega) (.string r3))
  have B3 : Below w.heap.size w (w3.setCell ⟨wc.heap.size,2,none⟩ (.string r3)):=bs (bn (bd B2) g3) (by dsimp only; omega)
  clear g3 HO2 HP2 HQ2 HR2 x0 x1 x2 y0 y1 y2 o0 o1 o2 f0 f1 f2 B2
  go_wp2
  rw [rounds_succ]
  obtain ⟨o0,o1,o2, -, -, -⟩:=HO3.out.c3
  go_wp2_with fail
  refine (vof_walk _ _ _ _).mono ?_
  rintro e w9 ⟨rfl,g9⟩
  obtain ⟨q0,q1,q2,f0,f1,f2⟩:=(HR3.out.below g9).c3
  have hz9 : w.heap.size+2<w9.heap.size:=hzs g9
  have B9:=bn (w:=w) bel g9
  clear g9 HO3 HP3 HQ3 HR3 o0 o1 o2
  go_wp2
  refine bodyPost_ret (v:=.agg #[.string r1,.string r2,.string r3]) (by simp [results,Tryz.results117,go_sem, *]) rfl ⟨(by first | rfl | rw [hI]),bel⟩
end Go.Proofs.YtopfedbhkfdjkaaGreatDoor


/- Vectors and planes over the rationals, as numbers: their sizes. Plain lemmas: no program. -/
namespace Go.Proofs.YtopfedbhkfdjkaaGreatDoor
open Go Go.RowKit
structure V3 where
 x : Rat
 y : Rat
 z : Rat
deriving DecidableEq
namespace V3
def add (a b : V3) : V3:=⟨a.x+b.x,a.y+b.y,a.z+b.z⟩
def sub (a b : V3) : V3:=⟨a.x - b.x,a.y - b.y,a.z - b.z⟩
def mulc (a b : V3) : V3:=⟨a.x * b.x,a.y * b.y,a.z * b.z⟩
def smul (a : V3) (k : Rat) : V3:=⟨a.x * k,a.y * k,a.z * k⟩
def dot (a b : V3) : Rat:=a.x * b.x+a.y * b.y+a.z * b.z
def zero : V3:=⟨0,0,0⟩
end V3
structure Pl where
 n : V3
 c : Rat
deriving DecidableEq
def Pl.height (p : Pl) (a : V3) : Rat:=p.n.dot a - p.c
def VV (a : V3) : Value:=.agg #[.string (rtx a.x),.string (rtx a.y),.string (rtx a.z)]
theorem VV_eq (a : V3) : VV a=.agg #[.string (rtx a.x),.string (rtx a.y),.string (rtx a.z)]:=rfl
def PV (p : Pl) : Value:=.agg #[.string (rtx p.n.x),.string (rtx p.n.y),.string (rtx p.n.z),.string (rtx p.c)]
theorem PV_eq (p : Pl) : PV p=.agg #[.string (rtx p.n.x),.string (rtx p.n.y),.string (rtx p.n.z),.string (rtx p.c)]:=rfl
def V3.le (a : V3) (k : Nat) : Prop:=rz a.x≤k∧rz a.y≤k∧rz a.z≤k
theorem V3.le.mono {a : V3} {k m : Nat} (h : a.le k) (hm : k≤m) : a.le m:=⟨Nat.le_trans h.1 hm,Nat.le_trans h.2.1 hm,Nat.le_trans h.2.2 hm⟩
theorem rz_add_le {x y : Rat} {a b c : Nat} (hx : rz x≤a) (hy : rz y≤b) (h : a+b+1≤c) : rz (x+y)≤c:=by
 have:=rz_add x y
 omega
theorem rz_sub_le {x y : Rat} {a b c : Nat} (hx : rz x≤a) (hy : rz y≤b) (h : a+b+1≤c) : rz (x - y)≤c:=by
 have:=rz_sub x y
 omega
theorem rz_mul_le {x y : Rat} {a b c : Nat} (hx : rz x≤a) (hy : rz y≤b) (h : a+b≤c) : rz (x * y)≤c:=by
 have:=rz_mul x y
 omega
theorem V3.le_add {a b : V3} {k m n : Nat} (ha : a.le k) (hb : b.le m) (h : k+m+1≤n) : (a.add b).le n :=
 ⟨rz_add_le ha.1 hb.1 h,rz_add_le ha.2.1 hb.2.1 h,rz_add_le ha.2.2 hb.2.2 h⟩
theorem V3.le_sub {a b : V3} {k m n : Nat} (ha : a.le k) (hb : b.le m) (h : k+m+1≤n) : (a.sub b).le n :=
 ⟨rz_sub_le ha.1 hb.1 h,rz_sub_le ha.2.1 hb.2.1 h,rz_sub_le ha.2.2 hb.2.2 h⟩
theorem V3.le_mulc {a b : V3} {k m n : Nat} (ha : a.le k) (hb : b.le m) (h : k+m≤n) : (a.mulc b).le n :=
 ⟨rz_mul_le ha.1 hb.1 h,rz_mul_le ha.2.1 hb.2.1 h,rz_mul_le ha.2.2 hb.2.2 h⟩
theorem V3.le_smul {a : V3} {q : Rat} {k m n : Nat} (ha : a.le k) (hb : rz q≤m) (h : k+m≤n) : (a.smul q).le n :=
 ⟨rz_mul_le ha.1 hb h,rz_mul_le ha.2.1 hb h,rz_mul_le ha.2.2 hb h⟩
theorem rz_dot {a b : V3} {k m n : Nat} (ha : a.le k) (hb : b.le m) (h : 3 * (k+m)+2≤n) : rz (a.dot b)≤n :=
 rz_add_le (rz_add_le (rz_mul_le ha.1 hb.1 (Nat.le_refl _)) (rz_mul_le ha.2.1 hb.2.1 (Nat.le_refl _)) (Nat.le_refl _)) (rz_mul_le ha.2.2 hb.2.2 (Nat.le_refl _)) (by omega)
def Pl.le (p : Pl) (k : Nat) : Prop:=p.n.le k∧rz p.c≤k
theorem rz_height {p : Pl} {a : V3} {k m n : Nat} (hp : p.le k) (ha : a.le m) (h : 3 * (k+m)+3+k≤n) : rz (p.height a)≤n :=
 rz_sub_le (rz_dot hp.1 ha (Nat.le_refl _)) hp.2 (by omega)
theorem V3.zero_iff (a : V3) : a=V3.zero↔a.x=0∧a.y=0∧a.z=0:=by
 obtain ⟨x,y,z⟩:=a
 simp [V3.zero]
end Go.Proofs.YtopfedbhkfdjkaaGreatDoor
