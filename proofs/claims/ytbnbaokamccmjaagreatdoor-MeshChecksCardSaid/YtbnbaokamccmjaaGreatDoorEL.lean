/- law of chapter 12: MeshChecks: the walk. -/
import Derived.Test.YtbnbaokamccmjaaGreatDoorEK
import Derived.Test.YtbnbaokamccmjaaGreatDoorED
set_option linter.unusedVariables false
set_option linter.unusedSimpArgs false
namespace Go.Proofs.YtbnbaokamccmjaaGreatDoor
open Go Go.RowKit
set_option maxHeartbeats 4000000 in
set_option maxRecDepth 100000 in
theorem equalV_walk (v u : Value) (l : List SV) (w : World) (hv : Vs w v l) (hu : Vs w u l) :
  Calls Tryz.prog 40 #[v,u] w fun e w'=>e=.returned (.bool true)∧Below w.heap.size w w':=by
 obtain ⟨A,cap,rfl,hn,hc,hcell⟩:=hv.open
 obtain ⟨B,cap2,rfl,hn2,hc2,hcell2⟩:=hu.open
 have HCL:=Lib.hid hcell
 have HCK:=Lib.hid hcell2
 obtain ⟨n,hn0⟩ : ∃ n,n=l.length:=⟨_,rfl⟩
 have HG:=Lib.hid (fun k (hk : k<n)=>(show ∃ s,l[k]?=some s from ⟨_,List.getElem?_eq_getElem (by rw [← hn0]; exact hk)⟩))
 rw [← hn0] at hn hn2 HCL HCK ⊢
 have hnm : n≤9223372036854775807:=by omega
 clear hn0 hv hu hcell hcell2
 go_enter Tryz.func40,Tryz.ntmps40
 go_wp2
 go_loopw [13] (fun ii wr=>∃ k : Nat,k≤n∧ii=.int .i64 k∧Below w.heap.size w wr) (fun ii _=>n - (intOf ii).toNat)
 case atStart=>exact ⟨0,Nat.zero_le _,rfl,Below.refl _ _⟩
 case round =>
  obtain ⟨k,hk,rfl,hb⟩:=hrel
  by_cases hlt : k<n
  ·obtain ⟨t,hg⟩:=HG.out k hlt
   obtain ⟨b,off,rfl,hcl⟩:=HCL.out (by omega)
   obtain ⟨b2,off2,rfl,hcl2⟩:=HCK.out (by omega)
   obtain ⟨c0,c1,c2⟩:=hcl k _ hg
   obtain ⟨d0,d1,d2⟩:=hcl2 k _ hg
   have c0:=cell_below hb c0
   have c1:=cell_below hb c1
   have c2:=cell_below hb c2
   have d0:=cell_below hb d0
   have d1:=cell_below hb d1
   have d2:=cell_below hb d2
   have hk0 : (0 : Int)≤(k : Int):=by omega
   have hkn : (k : Int)<(n : Int):=by omega
   have nq : ∀ w,(binOp .neq 25 (.agg #[.string t.x,.string t.y,.string t.z]) (.agg #[.string t.x,.string t.y,.string t.z])).run Tryz.prog w=.ok (.bool false) w:=fun w=>by rw [neq_vec,sv_eq]; simp
   clear hg hcl hcl2
   generalize t.x=x0 at *
   generalize t.y=y0 at *
   generalize t.z=z0 at *
   go_wp2_with fail
   go_quiet (fail)
   go_wp2
   go_roundw
   case rel=>exact ⟨k+1,by omega,by go_num,by first | exact hb | exact bd hb | exact below_drewN hb _⟩
   case measure=>simp [intOf]; omega
  ·obtain rfl : k=n:=by omega
   go_wp2
   go_ret
   exact ⟨rfl,hb⟩
set_option maxHeartbeats 4000000 in
set_option maxRecDepth 100000 in
theorem checks_out (A : Option Addr) (n cap : Nat) (l : List TV) (w : World) (hB : Bw w) (hv : Ts w (.slice A n cap) l)
  (h20 : ∀ w,Ts w (.slice A n cap) l→Calls Tryz.prog 20 #[.slice A n cap] w fun e w'=>e=.returned (.bool false)∧Below w.heap.size w w') :
  Calls Tryz.prog 7 #[.slice A n cap] w fun e w'=>e=.returned (.bool true)∧Below w.heap.size w w':=by
 have HV:=Lib.hid hv
 clear hv
 have H0:=Lib.hid (fun w hB=>awake_walk w hB)
 have H20:=Lib.hid h20
 clear h20
 go_enter Tryz.func7,Tryz.ntmps7
 go_wp2_with fail
 refine (H0.out _ (hB.below bel)).mono ?_
 rintro e w1 ⟨rfl,g1⟩
 have S1:=bn (w:=w) bel g1
 replace HV:=Lib.hid (HV.out.below S1)
 have B1 : Below w.heap.size w w1:=S1
 clear g1
 go_wp2_with fail
 refine (H20.out _ (HV.out.below bel)).mono ?_
 rintro e w2 ⟨rfl,g2⟩
 have S2 : Below w1.heap.size w1 w2:=bn bel g2
 replace HV:=Lib.hid (HV.out.below S2)
 have B2 : Below w.heap.size w w2:=bn B1 S2
 clear g2 S2
 go_wp2_with fail
 refine (H0.out _ (hB.below bel)).mono ?_
 rintro e w3 ⟨rfl,g3⟩
 have S3 : Below w2.heap.size w2 w3:=bn bel g3
 replace HV:=Lib.hid (HV.out.below S3)
 have B3 : Below w.heap.size w w3:=bn B2 S3
 clear g3 S3
 go_wp2
 go_ret
 exact ⟨rfl,bel⟩
set_option maxHeartbeats 4000000 in
set_option maxRecDepth 100000 in
theorem checks_main (A : Option Addr) (n cap : Nat) (l : List TV) (w : World) (hB : Bw w) (hv : Ts w (.slice A n cap) l)
  (ps : List SV) (k : Nat) (zp zc zs z : Int) (bc : Bool) (ns : Nat)
  (h20 : ∀ w,Ts w (.slice A n cap) l→Calls Tryz.prog 20 #[.slice A n cap] w fun e w'=>e=.returned (.bool true)∧Below w.heap.size w w')
  (hcs : ∀ A cap w,Ts w (.slice A n cap) l→Calls Tryz.prog 22 #[.slice A n cap] w (Ret fun r w'=>(∃ A c,r=.slice A n c∧Ts w' (.slice A n c) l)∧Below w.heap.size w w'))
  (hp : ∀ A c w,Bw w→Ts w (.slice A n c) l→Calls Tryz.prog 35 #[.slice A n c] w (Ret fun q0 w'=>(∃ A c,q0=.tuple #[.slice A k c,.int .i64 zp]∧Vs w' (.slice A k c) ps)∧Below w.heap.size w w'))
  (hrp : ∀ A c w,Ts w (.slice A n c) l→Calls Tryz.prog 36 #[.slice A n c] w (Ret fun q0 w'=>(∃ A c,q0=.tuple #[.slice A k c,.int .i64 zp]∧Vs w' (.slice A k c) ps)∧Below w.heap.size w w'))
  (hx : ∀ A c w,Bw w→Ts w (.slice A n c) l→Calls Tryz.prog 30 #[.slice A n c] w fun e w'=>e=.returned (.tuple #[.bool bc,.int .i64 zc])∧Below w.heap.size w w')
  (hrx : ∀ A c w,Ts w (.slice A n c) l→Calls Tryz.prog 37 #[.slice A n c] w fun e w'=>e=.returned (.tuple #[.bool bc,.int .i64 zc])∧Below w.heap.size w w')
  (hs : ∀ A c w,Bw w→Ts w (.slice A n c) l→Calls Tryz.prog 31 #[.slice A n c] w fun e w'=>e=.returned (.tuple #[.int .i64 ns,.int .i64 zs])∧Below w.heap.size w w')
  (hrs : ∀ A c w,Ts w (.slice A n c) l→Calls Tryz.prog 38 #[.slice A n c] w fun e w'=>e=.returned (.tuple #[.int .i64 ns,.int .i64 zs])∧Below w.heap.size w w')
  (hk : ∀ A c w,Bw w→Ts w (.slice A n c) l→Calls Tryz.prog 32 #[.slice A n c] w fun e w'=>e=.returned (.int .i64 z)∧Below w.heap.size w w')
  (hrk : ∀ A c w,Ts w (.slice A n c) l→Calls Tryz.prog 39 #[.slice A n c] w fun e w'=>e=.returned (.int .i64 z)∧Below w.heap.size w w') :
  Calls Tryz.prog 7 #[.slice A n cap] w fun e w'=>e=.returned (.bool true)∧Below w.heap.size w w':=by
 have HV:=Lib.hid hv
 clear hv
 have H0:=Lib.hid (fun w hB=>awake_walk w hB)
 have H20:=Lib.hid h20
 clear h20
 have HCS:=Lib.hid hcs
 clear hcs
 have HP:=Lib.hid hp
 clear hp
 have HRP:=Lib.hid hrp
 clear hrp
 have HX:=Lib.hid hx
 clear hx
 have HRX:=Lib.hid hrx
 clear hrx
 have HS:=Lib.hid hs
 clear hs
 have HRS:=Lib.hid hrs
 clear hrs
 have HK:=Lib.hid hk
 clear hk
 have HRK:=Lib.hid hrk
 clear hrk
 go_enter Tryz.func7,Tryz.ntmps7
 go_wp2_with fail
 refine (H0.out _ (hB.below bel)).mono ?_
 rintro e w1 ⟨rfl,g1⟩
 have S1:=bn (w:=w) bel g1
 replace HV:=Lib.hid (HV.out.below S1)
 have B1 : Below w.heap.size w w1:=S1
 clear g1
 go_wp2_with fail
 refine (H20.out _ (HV.out.below bel)).mono ?_
 rintro e w2 ⟨rfl,g2⟩
 have S2 : Below w1.heap.size w1 w2:=bn bel g2
 replace HV:=Lib.hid (HV.out.below S2)
 have B2 : Below w.heap.size w w2:=bn B1 S2
 clear g2 S2
 clear H0 H20
 go_wp2_with fail
 refine (HCS.out _ _ _ (HV.out.below bel)).mono ?_
 rintro e w3 ⟨_,rfl,⟨AV3,cV3,rfl,V3'⟩,g3⟩
 have S3 : Below w2.heap.size w2 w3:=bn bel g3
 replace HV:=Lib.hid (HV.out.below S3)
 have B3 : Below w.heap.size w w3:=bn B2 S3
 clear g3 S3
 have V3:=Lib.hid V3'
 clear V3'
 go_wp2_with fail
 refine (HP.out _ _ _ (hB.below bel) (V3.out.below bel)).mono ?_
 rintro e w4 ⟨_,rfl,⟨AP1,cP1,rfl,P1'⟩,g4⟩
 have S4 : Below w3.heap.size w3 w4:=bn bel g4
 replace HV:=Lib.hid (HV.out.below S4)
 replace V3:=Lib.hid (V3.out.below S4)
 have B4 : Below w.heap.size w w4:=bn B3 S4
 clear g4 S4
 have P1:=Lib.hid P1'
 clear P1'
 clear V3
 go_wp2_with fail
 refine (HRP.out _ _ _ (HV.out.below bel)).mono ?_
 rintro e w5 ⟨_,rfl,⟨AP2,cP2,rfl,P2'⟩,g5⟩
 have S5 : Below w4.heap.size w4 w5:=bn bel g5
 replace HV:=Lib.hid (HV.out.below S5)
 replace P1:=Lib.hid (P1.out.below S5)
 have B5 : Below w.heap.size w w5:=bn B4 S5
 clear g5 S5
 have P2:=Lib.hid P2'
 clear P2'
 clear HP HRP
 go_wp2_with fail
 refine (HCS.out _ _ _ (HV.out.below bel)).mono ?_
 rintro e w6 ⟨_,rfl,⟨AV4,cV4,rfl,V4'⟩,g6⟩
 have S6 : Below w5.heap.size w5 w6:=bn bel g6
 replace HV:=Lib.hid (HV.out.below S6)
 replace P1:=Lib.hid (P1.out.below S6)
 replace P2:=Lib.hid (P2.out.below S6)
 have B6 : Below w.heap.size w w6:=bn B5 S6
 clear g6 S6
 have V4:=Lib.hid V4'
 clear V4'
 go_wp2_with fail
 refine (HX.out _ _ _ (hB.below bel) (V4.out.below bel)).mono ?_
 rintro e w7 ⟨rfl,g7⟩
 have S7 : Below w6.heap.size w6 w7:=bn bel g7
 replace HV:=Lib.hid (HV.out.below S7)
 replace P1:=Lib.hid (P1.out.below S7)
 replace P2:=Lib.hid (P2.out.below S7)
 replace V4:=Lib.hid (V4.out.below S7)
 have B7 : Below w.heap.size w w7:=bn B6 S7
 clear g7 S7
 clear V4
 go_wp2_with fail
 refine (HRX.out _ _ _ (HV.out.below bel)).mono ?_
 rintro e w8 ⟨rfl,g8⟩
 have S8 : Below w7.heap.size w7 w8:=bn bel g8
 replace HV:=Lib.hid (HV.out.below S8)
 replace P1:=Lib.hid (P1.out.below S8)
 replace P2:=Lib.hid (P2.out.below S8)
 have B8 : Below w.heap.size w w8:=bn B7 S8
 clear g8 S8
 clear HX HRX
 go_wp2_with fail
 refine (HCS.out _ _ _ (HV.out.below bel)).mono ?_
 rintro e w9 ⟨_,rfl,⟨AV5,cV5,rfl,V5'⟩,g9⟩
 have S9 : Below w8.heap.size w8 w9:=bn bel g9
 replace HV:=Lib.hid (HV.out.below S9)
 replace P1:=Lib.hid (P1.out.below S9)
 replace P2:=Lib.hid (P2.out.below S9)
 have B9 : Below w.heap.size w w9:=bn B8 S9
 clear g9 S9
 have V5:=Lib.hid V5'
 clear V5'
 go_wp2_with fail
 refine (HS.out _ _ _ (hB.below bel) (V5.out.below bel)).mono ?_
 rintro e w10 ⟨rfl,g10⟩
 have S10 : Below w9.heap.size w9 w10:=bn bel g10
 replace HV:=Lib.hid (HV.out.below S10)
 replace P1:=Lib.hid (P1.out.below S10)
 replace P2:=Lib.hid (P2.out.below S10)
 replace V5:=Lib.hid (V5.out.below S10)
 have B10 : Below w.heap.size w w10:=bn B9 S10
 clear g10 S10
 clear V5
 go_wp2_with fail
 refine (HRS.out _ _ _ (HV.out.below bel)).mono ?_
 rintro e w11 ⟨rfl,g11⟩
 have S11 : Below w10.heap.size w10 w11:=bn bel g11
 replace HV:=Lib.hid (HV.out.below S11)
 replace P1:=Lib.hid (P1.out.below S11)
 replace P2:=Lib.hid (P2.out.below S11)
 have B11 : Below w.heap.size w w11:=bn B10 S11
 clear g11 S11
 clear HS HRS
 go_wp2_with fail
 refine (HCS.out _ _ _ (HV.out.below bel)).mono ?_
 rintro e w12 ⟨_,rfl,⟨AV6,cV6,rfl,V6'⟩,g12⟩
 have S12 : Below w11.heap.size w11 w12:=bn bel g12
 replace HV:=Lib.hid (HV.out.below S12)
 replace P1:=Lib.hid (P1.out.below S12)
 replace P2:=Lib.hid (P2.out.below S12)
 have B12 : Below w.heap.size w w12:=bn B11 S12
 clear g12 S12
 have V6:=Lib.hid V6'
 clear V6'
 go_wp2_with fail
 refine (HK.out _ _ _ (hB.below bel) (V6.out.below bel)).mono ?_
 rintro e w13 ⟨rfl,g13⟩
 have S13 : Below w12.heap.size w12 w13:=bn bel g13
 replace HV:=Lib.hid (HV.out.below S13)
 replace P1:=Lib.hid (P1.out.below S13)
 replace P2:=Lib.hid (P2.out.below S13)
 replace V6:=Lib.hid (V6.out.below S13)
 have B13 : Below w.heap.size w w13:=bn B12 S13
 clear g13 S13
 clear V6
 go_wp2_with fail
 refine (HRK.out _ _ _ (HV.out.below bel)).mono ?_
 rintro e w14 ⟨rfl,g14⟩
 have S14 : Below w13.heap.size w13 w14:=bn bel g14
 replace HV:=Lib.hid (HV.out.below S14)
 replace P1:=Lib.hid (P1.out.below S14)
 replace P2:=Lib.hid (P2.out.below S14)
 have B14 : Below w.heap.size w w14:=bn B13 S14
 clear g14 S14
 clear HV
 clear HK HRK HCS
 go_wp2_with fail
 refine (equalV_walk _ _ _ _ (P1.out.below bel) (P2.out.below bel)).mono ?_
 rintro e w15 ⟨rfl,g15⟩
 have S15 : Below w14.heap.size w14 w15:=bn bel g15
 replace P1:=Lib.hid (P1.out.below S15)
 replace P2:=Lib.hid (P2.out.below S15)
 have B15 : Below w.heap.size w w15:=bn B14 S15
 clear g15 S15
 clear P1 P2
 go_wp2
 go_ret
 exact ⟨rfl,bel⟩
end Go.Proofs.YtbnbaokamccmjaaGreatDoor

/- law of chapter 12: MeshChecks: whatever the input is, it returns true; the row and the card. -/
namespace Go.Proofs.YtbnbaokamccmjaaGreatDoor
open Go Go.ChangeShapes Go.WideShapes Go.ChangeAt Go.RowKit Go.Joins
open Go.ChangeMaps (open_string shut_string)
theorem resv_none {f : FuncId} {args : Array Value} {w : World} {z : Int} (h : Calls Tryz.prog f args w fun e w' => e = .returned (.tuple #[.slice none 0 0, .int .i64 z]) ∧ Below w.heap.size w w') :
  Calls Tryz.prog f args w (Ret fun q0 w' => (∃ A c, q0 = .tuple #[.slice A 0 c, .int .i64 z] ∧ Vs w' (.slice A 0 c) []) ∧ Below w.heap.size w w') := by
 refine h.mono ?_
 rintro e w' ⟨rfl, g⟩
 exact ⟨_, rfl, ⟨none, 0, rfl, Vs.nil _⟩, g⟩
theorem resv_sl {f : FuncId} {args : Array Value} {w : World} {ps : List SV} (h : Calls Tryz.prog f args w (Ret fun r w' => (∃ u, r = .tuple #[u, .int .i64 0] ∧ Vs w' u ps) ∧ Below w.heap.size w w')) :
  Calls Tryz.prog f args w (Ret fun q0 w' => (∃ A c, q0 = .tuple #[.slice A ps.length c, .int .i64 0] ∧ Vs w' (.slice A ps.length c) ps) ∧ Below w.heap.size w w') := by
 refine h.mono ?_
 rintro e w' ⟨_, rfl, ⟨u, rfl, hu⟩, g⟩
 obtain ⟨A, c, rfl, -, -, -⟩ := hu.open
 exact ⟨_, rfl, ⟨A, c, rfl, hu⟩, g⟩
theorem few_tle10 {l : List TV} (h : fewT l = true) : tle l 10000000 := fun t ht => by
 have q : ∀ s : SV, isFew s = true → s.le 10000000 := fun s h => by
  simp only [isFew, Bool.and_eq_true, decide_eq_true_eq] at h
  exact ⟨Nat.le_trans h.1.1 (by omega), Nat.le_trans h.1.2 (by omega), Nat.le_trans h.2 (by omega)⟩
 obtain ⟨a, b, c⟩ := few_tri h t ht
 exact ⟨q _ a, q _ b, q _ c⟩
theorem checks_both (l : List TV) (n : Nat) (hn : l.length = n) (hf : fewT l = true) : ∃ (ps : List SV) (k : Nat) (zp zc zs : Int) (bc : Bool) (ns : Nat),
  (∀ A c w, Bw w → Ts w (.slice A n c) l → Calls Tryz.prog 35 #[.slice A n c] w (Ret fun q0 w' => (∃ A c, q0 = .tuple #[.slice A k c, .int .i64 zp] ∧ Vs w' (.slice A k c) ps) ∧ Below w.heap.size w w')) ∧
  (∀ A c w, Ts w (.slice A n c) l → Calls Tryz.prog 36 #[.slice A n c] w (Ret fun q0 w' => (∃ A c, q0 = .tuple #[.slice A k c, .int .i64 zp] ∧ Vs w' (.slice A k c) ps) ∧ Below w.heap.size w w')) ∧
  (∀ A c w, Bw w → Ts w (.slice A n c) l → Calls Tryz.prog 30 #[.slice A n c] w fun e w' => e = .returned (.tuple #[.bool bc, .int .i64 zc]) ∧ Below w.heap.size w w') ∧
  (∀ A c w, Ts w (.slice A n c) l → Calls Tryz.prog 37 #[.slice A n c] w fun e w' => e = .returned (.tuple #[.bool bc, .int .i64 zc]) ∧ Below w.heap.size w w') ∧
  (∀ A c w, Bw w → Ts w (.slice A n c) l → Calls Tryz.prog 31 #[.slice A n c] w fun e w' => e = .returned (.tuple #[.int .i64 ns, .int .i64 zs]) ∧ Below w.heap.size w w') ∧
  (∀ A c w, Ts w (.slice A n c) l → Calls Tryz.prog 38 #[.slice A n c] w fun e w' => e = .returned (.tuple #[.int .i64 ns, .int .i64 zs]) ∧ Below w.heap.size w w') := by
 have h4 := few_tle hf
 have h1 := few_tle10 hf
 by_cases hz : chkC l = 0
 ·obtain ⟨L, rfl⟩ := solid_of (chkC_zero hz).2.1
  have l20 := few_leT hf
  have l3 : ∀ t ∈ L, t.a.le 30000 ∧ t.b.le 30000 ∧ t.c.le 30000 := le_up l20 (by omega)
  exact ⟨_, _, 0, 0, 0, convexL L, shellsL (L.map txt), fun A c w hB h => resv_sl (mPoints_ok _ _ w hB h h4 hz), fun A c w h => resv_sl (rPoints_ok _ _ w h h1 hz),
   fun A c w hB h => convex_walk _ L w hB h l3 hz, fun A c w h => rConvex_ok _ L w h l3 hz,
   fun A c w hB h => mShells_ok _ _ w hB h h4 hz, fun A c w h => rShells_ok _ _ w h h1 hz⟩
 ·exact ⟨[], 0, chkC l, chkC l, chkC l, false, 0, fun A c w hB h => resv_none (mPoints_bad _ l _ w hB h h4 rfl hz), fun A c w h => resv_none (rPoints_bad _ l _ w h h1 rfl hz),
   fun A c w hB h => mConvex_bad _ l _ w hB h h4 rfl hz, fun A c w h => rConvex_bad _ l _ w h h1 rfl hz,
   fun A c w hB h => mShells_bad _ l _ w hB h h4 rfl hz, fun A c w h => rShells_bad _ l _ w h h1 rfl hz⟩
theorem meshChecks_walk (v0 : Value) (l : List TV) (w : World) (hB : Bw w) (hv : Ts w v0 l) :
  Calls Tryz.prog 7 #[v0] w fun e w' => e = .returned (.bool true) ∧ Below w.heap.size w w' := by
 obtain ⟨A, cap, rfl, -, -, -⟩ := hv.open
 have h20 := fun w (h : Ts w (.slice A l.length cap) l) => refFew_walk _ l w h
 cases r1 : fewT l with
 | false =>
  rw [r1] at h20
  exact checks_out A _ cap l w hB hv h20
 | true =>
 rw [r1] at h20
 have hl513 := few_len r1
 have h4 := few_tle r1
 have h1 := few_tle10 r1
 obtain ⟨ps, k, zp, zc, zs, bc, ns, a1, a2, b1, b2, c1, c2⟩ := checks_both l _ rfl r1
 exact checks_main A _ cap l w hB hv ps k zp zc zs (chkC l) bc ns h20 (fun A cap w h => clone_sl _ l _ rfl (by omega) w h) a1 a2 b1 b2 c1 c2 (fun A c w hB h => check_walk _ l w hB h h4) (fun A c w h => rCheck_walk _ l w h h1)
/-! ### The row -/
set_option maxRecDepth 100000 in
theorem checks_contract (H : Type) (enc : TypeId × Value → H) (W : World) (base : Nat) (args : Array Value) (ds gs : List (DataW H)) (before : List MemPlace)
  (hval : ∀ (j : Nat) t v, Tryz.f7.params[j]? = some t → args[j]? = some v → Value.okWide Tryz.prog W .any base t v)
  (hW : DataW.Whole enc Tryz.prog Tryz.f7.params.toList Rows.meshChecksSpec.vars false W args.toList ds gs before) (hL : laidMetH Tryz.prog Rows.meshChecksRow.laid W) (hS : W.ShapedOpen Tryz.prog) :
  Calls Tryz.prog 7 args W fun e W' => ∃ v, e = .returned v ∧ Rows.meshChecksSpec.post enc Tryz.prog Tryz.f7 false true false false W args v W' := by
 have hW' := hW
 obtain ⟨p, q, hA0, hV, rfl, hfz, hnd⟩ := hW
 have hA : DataW.TrodAll enc Tryz.prog W 0 (fun _ => true) true Tryz.f7.params.toList args.toList ds p := hA0
 rw [Tryz.params7] at hA hval
 clear hA0
 obtain ⟨v0, a0, d0, e0, p0, q0, g0, rfl, rfl, h0, hA0⟩ := trodAll_cons hA
 obtain ⟨rfl, rfl, rfl⟩ := trodAll_nil hA0
 obtain ⟨al⟩ := args
 change al = _ at g0
 subst g0
 obtain ⟨rfl, rfl⟩ := trodVars_none hV
 obtain ⟨l0, hl0⟩ := open_solid (hval 0 33 v0 rfl rfl) h0
 have hlt0 : ∀ x ∈ p0, x.block < W.heap.size := fun x hx => hW'.lt x (by simp [hx])
 refine (meshChecks_walk v0 l0 W (bw_of hL hS) hl0).mono fun e W' ⟨he, hg⟩ => ?_
 subst he
 refine ⟨_, rfl, _, _, _, [], (p0 ++ []), [], hW', ?_, ?_, rfl, hg.frame _, fun h => by cases h⟩
 ·exact trodAll_cons_mk (shut_bool Tryz.underlying4 _) trodAll_mk0
 ·exact (trodAll_cons_mk (Below.trod laidOut (by kernel_rfl) (of_decide_eq_true (by kernel_rfl)) h0 hg hlt0) trodAll_mk0)
theorem checks_laid (os : Os) : laidMet Tryz.prog Rows.meshChecksRow.laid ((laidWorld os).forCall (fun _ _ => 0) ⟨#[], #[noSol], []⟩).memory :=
 laidMet_of_run' 8 (by kernel_rfl) (by kernel_rfl)
theorem checks_reads (os : Os) {H : Type} (enc : TypeId × Value → H) : ∃ places, DataW.whole enc Tryz.prog ((laidWorld os).forCall (fun _ _ => 0) ⟨#[], #[noSol], []⟩).memory Tryz.f7.params.toList Rows.meshChecksSpec.vars false (#[noSol] : Array Value).toList 8 = some ([.nil], [], places) :=
 ⟨[], by kernel_rfl⟩
set_option maxRecDepth 100000 in
theorem checks_lifted (os : Os) (started : os.Started) (H : Type) (enc : TypeId × Value → H) (F : Stop.Interp) :
  ReturnsInHanded {} Tryz.checked os 7 .any ((OpenSpec.ofChange Rows.meshChecksSpec).preRow enc Tryz.prog Tryz.f7 Rows.meshChecksRow.domain false Rows.meshChecksRow.laid) (((OpenSpec.ofChange Rows.meshChecksSpec).at F).post enc Tryz.prog Tryz.f7 false true false false) := by
 obtain ⟨places, hx⟩ := checks_reads os enc
 refine returnsInHanded_of_row (C := Tryz.checked) (s := OpenSpec.ofChange Rows.meshChecksSpec) own started (by kernel_rfl) Tryz.func7
  (witness_row_at (enc := enc) (C := Tryz.checked) false (laidWorld os) #[noSol] rfl (by kernel_rfl) (by kernel_rfl) (by kernel_rfl)
   (OpenSpec.preRow_of_cond 8 hx (by kernel_rfl) (fun k hk => by cases hk) (by kernel_rfl) (checks_laid os))) ?_
 intro W base args ds gs before hval hW _ _ _ hL hS _
 exact checks_contract H enc W base args ds gs before hval hW hL hS
theorem checks_said : Rows.MeshChecksSaid :=
 OpenClaim.holds_of_cond 7 Tryz.f7 rfl rfl rfl rfl rfl rfl rfl ⟨rfl, rfl, rfl, rfl, rfl⟩ rfl rfl rfl rfl rfl (by kernel_rfl) Tryz.func7 (by kernel_rfl)
  (of_decide_eq_true (by kernel_rfl)) (by unfold Func.isWrapper; first | (rw [if_pos (by decide +kernel)]; kernel_rfl) | (rw [if_neg (by decide +kernel)]; exact ⟨rfl, rfl⟩))
  (fun os started H enc _ F => by rw [OpenClaim.pre_eq_preRow]; exact checks_lifted os started H enc F)
theorem checks_plain (f : FuncId) (fn : Func) (hf : Tryz.pinned.checked.prog.funcNamed "garboard/garboardlaw12.MeshChecks" = some f) (hfn : Tryz.pinned.checked.prog.funcs[f]? = some fn) :
  true = Tryz.pinned.checked.prog.looks [] ∧ ∀ (j : Nat) t, fn.params[j]? = some t → Tryz.pinned.checked.prog.wantsStandIn t = false := by
 obtain rfl : f = 7 := Option.some.inj ((show Tryz.prog.funcNamed "garboard/garboardlaw12.MeshChecks" = some 7 by kernel_rfl).symm.trans hf) |>.symm
 obtain rfl : fn = Tryz.f7 := (Option.some.inj (Tryz.func7.symm.trans hfn)).symm
 refine ⟨by kernel_rfl, fun j t ht => ?_⟩
 rw [Tryz.params7] at ht
 have : t = 33 := by simpa using Array.mem_of_getElem? ht
 rcases this with rfl
 ·exact (show Tryz.prog.wantsStandIn 33 = false by kernel_rfl)
theorem meshChecks_holds : Rows.MeshChecksCardSaid :=
 Claim7.holds_tied_plain_at .later [] _ _ _ _ checks_said (fun _ h => by cases h) (by kernel_rfl) (fun _ h => by cases h) meshChecks_row_tie rfl ⟨rfl, rfl⟩ (by kernel_rfl) rfl checks_plain (by kernel_rfl)
#print axioms meshChecks_holds
end Go.Proofs.YtbnbaokamccmjaaGreatDoor
