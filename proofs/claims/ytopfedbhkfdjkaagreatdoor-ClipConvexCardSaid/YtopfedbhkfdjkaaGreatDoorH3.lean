/- law of chapter 13: ClipConvex: whatever the input is, it returns true; the row and the card. -/
import Derived.Test.YtopfedbhkfdjkaaGreatDoorH1
import Derived.Test.YtopfedbhkfdjkaaGreatDoorH2
set_option linter.unusedVariables false
set_option linter.unusedSimpArgs false
namespace Go.Proofs.YtopfedbhkfdjkaaGreatDoor
open Go Go.ChangeShapes Go.WideShapes Go.ChangeAt Go.RowKit Go.Joins
open Go.ChangeMaps (open_string shut_string)
theorem thr_ok {a b c : V3} (ha : a.le 20) (hb : b.le 20) (hc : c.le 20) {ps : List V3} (hp : ∀ x ∈ ps, x.le 20) : ThrOK ⟨txv a, txv b, txv c⟩ fun x1 x2 x3 x4 => ∀ s ∈ tvs ps, SideOK x1 x2 x3 x4 (fun _ => True) s := by
 have h := fun w hB => vThrough_walk a b c (ha.mono (by omega)) (hb.mono (by omega)) (hc.mono (by omega)) w hB
 simp only [VV_eq] at h
 unfold ThrOK
 by_cases h0 : thrN a b c = V3.zero
 ·left
  unfold thrV thrE at h
  rw [if_pos h0, if_pos h0] at h
  exact h
 ·right
  unfold thrV thrE at h
  rw [if_neg h0, if_neg h0, PV_eq] at h
  refine ⟨_, _, _, _, fun s hs => ?_, h⟩
  obtain ⟨x, hx, rfl⟩ := List.mem_map.1 hs
  exact side_ok (p := thrP a b c) h0 (thrP_le ha hb hc (by omega)) ((hp x hx).mono (by omega)) trivial
theorem clipConvex_walk (v : Value) (l : List TV) (s : SV) (c : ByteArray) (hc : c.size ≤ maxLen) (w : World) (hB : Bw w) (hv : Ts w v l) :
  Calls Tryz.prog 9 #[v, .agg #[.string s.x, .string s.y, .string s.z, .string c]] w fun e w' => e = .returned (.bool true) ∧ Below w.heap.size w w' := by
 obtain ⟨A, cap, rfl, -, -, -⟩ := hv.open
 have hfw := fun w hv => few13_walk (.slice A l.length cap) l s c hc w hv
 cases hf : few13 l s c with
 | false =>
  rw [hf] at hfw
  exact convex13_out A l.length cap l _ _ _ _ w hB hv hfw
 | true =>
  rw [hf] at hfw
  by_cases hn : 16 < l.length
  ·exact convex13_many A l.length cap l _ _ _ _ w hB hv (by omega) hfw
  have hn16 : (l.length : Int) ≤ 16 := by omega
  have hcl := clone13 l (few13_len hf)
  have hfe := few_tle (few13_parts hf).1
  rcases in13 hf with ⟨L, p, rfl, rfl, rfl, h0, hp, hL, hk, hl⟩ | hz
  ·have hp5 : p.le 100000 := ⟨hp.1.mono (by omega), by have := hp.2; omega⟩
   have hL5 : leT L 100000 := leT_mono hL (by omega)
   obtain ⟨q1, q2, q3, q4, q5⟩ := parts_le (n := 30000) hp hL (by omega)
   obtain ⟨n1, n2⟩ := parts_len p L
   have hcv := fun v w hB hv => convex_walk v L w hB hv (le_up hL (by omega)) hk
   cases hC : convexL L with
   | false =>
    rw [hC] at hcv
    exact convex13_not A _ cap _ _ _ _ _ w hB hv ((underL p L).map txt) hn16 hfw hcl hcv (fun A cap w hB hv => cBelow13 h0 hp5 hL5 hk _ w hB hv (by omega))
   | true =>
    rw [hC] at hcv
    have hpl := mem_points hL
    refine convex13_yes A _ cap _ _ _ _ _ w hB hv ((underL p L).map txt) hn16 hfw hcl hcv (fun A cap w hB hv => cBelow13 h0 hp5 hL5 hk _ w hB hv (by omega)) ?_ ?_
    ·intro A cap w hB hv
     have hpn : (tvs (pointsL L)).length ≤ 1000000 := by
      rw [tvs_length]
      have := points_len L
      omega
     refine solid_at A _ cap (L.map txt) (tvs (pointsL L)) (shellsL L) w hB hv rfl (by omega) hpn hcl ?_ ?_ ?_
     ·intro v w hB hv
      have := mShells_ok v (L.map txt) w hB hv hfe hk
      rwa [shells_txt] at this
     ·intro v w hB hv
      have := mPoints_ok v (L.map txt) w hB hv hfe hk
      rwa [points_txt] at this
     ·intro t ht
      obtain ⟨u, hu, rfl⟩ := List.mem_map.1 ht
      exact thr_ok (hL u hu).1 (hL u hu).2.1 (hL u hu).2.2 hpl
    ·intro v w hB hv
     have := convex_walk v (underL p L) w hB hv q4 (under_ck hk (by omega))
     rwa [under_convex hC p] at this
  ·obtain ⟨b1, b2, b3⟩ := bad13 hf hz
   by_cases hk : chkC l = 0
   ·have hz2 : chkS l s c = plS s c := by unfold chkS; rw [if_pos hk]
    obtain ⟨L, rfl⟩ := solid_of (chkC_zero hk).2.1
    have hL := few_leT (few13_parts hf).1
    have hcv := fun v w hB hv => convex_walk v L w hB hv (le_up hL (by omega)) hk
    exact convex13_bad2 A _ cap _ _ _ _ _ w hB hv (chkS (L.map txt) s c) (convexL L) (by simpa using hz) hn16 hfw hcl hcv (fun A cap w hB hv => b1 _ w hB hv)
   ·have hz2 : chkS l s c = chkC l := by unfold chkS; rw [if_neg hk]
    rw [hz2] at b1 hz
    exact convex13_bad1 A _ cap l _ _ _ _ w hB hv (chkC l) (by simpa using hz) hn16 hfw hcl (fun v w hB hv => mConvex_bad v l _ w hB hv hfe rfl hz) (fun A cap w hB hv => b1 _ w hB hv)
/-! ### The row -/
set_option maxRecDepth 100000 in
theorem convex13_contract (H : Type) (enc : TypeId × Value → H) (W : World) (base : Nat) (args : Array Value) (ds gs : List (DataW H)) (before : List MemPlace)
  (hval : ∀ (j : Nat) t v, Tryz.f9.params[j]? = some t → args[j]? = some v → Value.okWide Tryz.prog W .any base t v)
  (hW : DataW.Whole enc Tryz.prog Tryz.f9.params.toList Rows.clipConvexSpec.vars false W args.toList ds gs before) (hL : laidMetH Tryz.prog Rows.clipConvexRow.laid W) (hS : W.ShapedOpen Tryz.prog) :
  Calls Tryz.prog 9 args W fun e W' => ∃ v, e = .returned v ∧ Rows.clipConvexSpec.post enc Tryz.prog Tryz.f9 false true false false W args v W' := by
 have hW' := hW
 obtain ⟨p, q, hA0, hV, rfl, hfz, hnd⟩ := hW
 have hA : DataW.TrodAll enc Tryz.prog W 0 (fun _ => true) true Tryz.f9.params.toList args.toList ds p := hA0
 rw [Tryz.params9] at hA hval
 clear hA0
 obtain ⟨v0, a0, d0, e0, p0, q0, g0, rfl, rfl, h0, hA0⟩ := trodAll_cons hA
 obtain ⟨v1, a1, d1, e1, p1, q1, rfl, rfl, rfl, h1, hA1⟩ := trodAll_cons hA0
 obtain ⟨rfl, rfl, rfl⟩ := trodAll_nil hA1
 obtain ⟨al⟩ := args
 change al = _ at g0
 subst g0
 obtain ⟨rfl, rfl⟩ := trodVars_none hV
 obtain ⟨l0, hl0⟩ := open_solid (hval 0 23 v0 rfl rfl) h0
 obtain ⟨s1, c1, rfl, x1⟩ := open_plane (hval 1 28 v1 rfl rfl) h1
 have hlt0 : ∀ x ∈ p0, x.block < W.heap.size := fun x hx => hW'.lt x (by simp [hx])
 have hlt1 : ∀ x ∈ p1, x.block < W.heap.size := fun x hx => hW'.lt x (by simp [hx])
 refine (clipConvex_walk v0 l0 s1 c1 x1 W (bw_of hL hS) hl0).mono fun e W' ⟨he, hg⟩ => ?_
 subst he
 refine ⟨_, rfl, _, _, _, [], (p0 ++ (p1 ++ [])), [], hW', ?_, ?_, rfl, hg.frame _, fun h => by cases h⟩
 ·exact trodAll_cons_mk (shut_bool Tryz.underlying4 _) trodAll_mk0
 ·exact (trodAll_cons_mk (Below.trod laidOut (by kernel_rfl) (of_decide_eq_true (by kernel_rfl)) h0 hg hlt0) (trodAll_cons_mk (Below.trod laidOut (by kernel_rfl) (of_decide_eq_true (by kernel_rfl)) h1 hg hlt1) trodAll_mk0))
theorem convex13_laid (os : Os) : laidMet Tryz.prog Rows.clipConvexRow.laid ((laidWorld os).forCall (fun _ _ => 0) ⟨#[], #[noSol, .agg #[.string ⟨#[]⟩, .string ⟨#[]⟩, .string ⟨#[]⟩, .string ⟨#[]⟩]], []⟩).memory :=
 laidMet_of_run' 8 (by kernel_rfl) (by kernel_rfl)
theorem convex13_reads (os : Os) {H : Type} (enc : TypeId × Value → H) : ∃ places, DataW.whole enc Tryz.prog ((laidWorld os).forCall (fun _ _ => 0) ⟨#[], #[noSol, .agg #[.string ⟨#[]⟩, .string ⟨#[]⟩, .string ⟨#[]⟩, .string ⟨#[]⟩]], []⟩).memory Tryz.f9.params.toList Rows.clipConvexSpec.vars false (#[noSol, .agg #[.string ⟨#[]⟩, .string ⟨#[]⟩, .string ⟨#[]⟩, .string ⟨#[]⟩]] : Array Value).toList 8 = some ([.nil, .agg [.agg [.lit (.string []), .lit (.string []), .lit (.string [])], .lit (.string [])]], [], places) :=
 ⟨[], by kernel_rfl⟩
set_option maxRecDepth 100000 in
theorem convex13_lifted (os : Os) (started : os.Started) (H : Type) (enc : TypeId × Value → H) (F : Stop.Interp) :
  ReturnsInHanded {} Tryz.checked os 9 .any ((OpenSpec.ofChange Rows.clipConvexSpec).preRow enc Tryz.prog Tryz.f9 Rows.clipConvexRow.domain false Rows.clipConvexRow.laid) (((OpenSpec.ofChange Rows.clipConvexSpec).at F).post enc Tryz.prog Tryz.f9 false true false false) := by
 obtain ⟨places, hx⟩ := convex13_reads os enc
 refine returnsInHanded_of_row (C := Tryz.checked) (s := OpenSpec.ofChange Rows.clipConvexSpec) own started (by kernel_rfl) Tryz.func9
  (witness_row_at (enc := enc) (C := Tryz.checked) false (laidWorld os) #[noSol, .agg #[.string ⟨#[]⟩, .string ⟨#[]⟩, .string ⟨#[]⟩, .string ⟨#[]⟩]] rfl (by kernel_rfl) (by kernel_rfl) (by kernel_rfl)
   (OpenSpec.preRow_of_cond 8 hx (by kernel_rfl) (fun k hk => by cases hk) (by kernel_rfl) (convex13_laid os))) ?_
 intro W base args ds gs before hval hW _ _ _ hL hS _
 exact convex13_contract H enc W base args ds gs before hval hW hL hS
theorem convex13_said : Rows.ClipConvexSaid :=
 OpenClaim.holds_of_cond 9 Tryz.f9 rfl rfl rfl rfl rfl rfl rfl ⟨rfl, rfl, rfl, rfl, rfl⟩ rfl rfl rfl rfl rfl (by kernel_rfl) Tryz.func9 (by kernel_rfl)
  (of_decide_eq_true (by kernel_rfl)) (by unfold Func.isWrapper; first | (rw [if_pos (by decide +kernel)]; kernel_rfl) | (rw [if_neg (by decide +kernel)]; exact ⟨rfl, rfl⟩))
  (fun os started H enc _ F => by rw [OpenClaim.pre_eq_preRow]; exact convex13_lifted os started H enc F)
theorem convex13_plain (f : FuncId) (fn : Func) (hf : Tryz.pinned.checked.prog.funcNamed "garboard/garboardlaw13.ClipConvex" = some f) (hfn : Tryz.pinned.checked.prog.funcs[f]? = some fn) :
  true = Tryz.pinned.checked.prog.looks [] ∧ ∀ (j : Nat) t, fn.params[j]? = some t → Tryz.pinned.checked.prog.wantsStandIn t = false := by
 obtain rfl : f = 9 := Option.some.inj ((show Tryz.prog.funcNamed "garboard/garboardlaw13.ClipConvex" = some 9 by kernel_rfl).symm.trans hf) |>.symm
 obtain rfl : fn = Tryz.f9 := (Option.some.inj (Tryz.func9.symm.trans hfn)).symm
 refine ⟨by kernel_rfl, fun j t ht => ?_⟩
 rw [Tryz.params9] at ht
 have : t = 23 ∨ t = 28 := by simpa using Array.mem_of_getElem? ht
 rcases this with rfl | rfl
 ·exact (show Tryz.prog.wantsStandIn 23 = false by kernel_rfl)
 ·exact (show Tryz.prog.wantsStandIn 28 = false by kernel_rfl)
theorem clipConvex_holds : Rows.ClipConvexCardSaid :=
 Claim7.holds_tied_plain_at .later [] _ _ _ _ convex13_said (fun _ h => by cases h) (by kernel_rfl) (fun _ h => by cases h) clipConvex_row_tie rfl ⟨rfl, rfl⟩ (by kernel_rfl) rfl convex13_plain (by kernel_rfl)
#print axioms clipConvex_holds
end Go.Proofs.YtopfedbhkfdjkaaGreatDoor
