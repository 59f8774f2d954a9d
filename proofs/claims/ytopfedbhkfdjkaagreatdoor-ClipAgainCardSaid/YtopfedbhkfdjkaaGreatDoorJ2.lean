/- laws of chapter 13: what Side answers at numbers. -/
import Derived.Test.YtopfedbhkfdjkaaGreatDoorJ1
set_option linter.unusedVariables false
set_option linter.unusedSimpArgs false
namespace Go.Proofs.YtopfedbhkfdjkaaGreatDoor
open Go Go.RowKit
theorem tpts_len (L : List (Tr V3)) : (tpts L).length=3 * L.length:=by
 induction L with
 | nil=>rfl
 | cons t L ih =>
  show (t.pts++tpts L).length=_
  rw [List.length_append,ih,List.length_cons]
  show 3+_=_
  omega
theorem points_len (L : List (Tr V3)) : (pointsL L).length≤3 * L.length:=by
 have:=nub_length (tpts L)
 rw [tpts_len] at this
 exact this
end Go.Proofs.YtopfedbhkfdjkaaGreatDoor

/- law of chapter 13: ClipAgain: whatever the input is, it returns true; the row and the card. -/
namespace Go.Proofs.YtopfedbhkfdjkaaGreatDoor
open Go Go.ChangeShapes Go.WideShapes Go.ChangeAt Go.RowKit Go.Joins
open Go.ChangeMaps (open_string shut_string)
theorem dot_comm (a b : V3) : a.dot b = b.dot a := by
 unfold V3.dot
 grind
theorem in_points {L : List (Tr V3)} {Q : V3 → Prop} (h : ∀ x ∈ pointsL L, Q x) : allP Q L := by
 intro t ht
 have k : ∀ y, y = t.a ∨ y = t.b ∨ y = t.c → Q y := fun y hy => h y (by rw [mem_pointsL, mem_tpts_iff]; exact ⟨t, ht, hy⟩)
 exact ⟨k _ (.inl rfl), k _ (.inr (.inl rfl)), k _ (.inr (.inr rfl))⟩
theorem sol_e {w : World} {e : Ending} {w' : World} (h : SolR (([] : List (Tr V3)).map txt) w e w') : SolE w e w' := by
 obtain ⟨A, c, rfl, -, g⟩ := h
 exact ⟨A, c, rfl, g⟩
theorem ends_ok {p : Pl} {L : List (Tr V3)} (h0 : p.n ≠ V3.zero) (hp : p.n.le 20) (hL : leT L 20) (hk : chkC (L.map txt) = 0) (hl : L.length ≤ 40) {lo hi : Rat} (hr : RgOK p.n (pointsL L) lo hi) :
  EndsOK L.length (L.map txt) (rtx p.n.x) (rtx p.n.y) (rtx p.n.z) (rtx lo) (rtx hi) := by
 have hL5 : leT L 100000 := leT_mono hL (by omega)
 have h1 : rz (1 : Rat) ≤ 10 := Nat.le_trans one_le (by omega)
 have hlo : rz (lo - 1) ≤ 100000 := by have := rz_sub lo 1; have := hr.1; omega
 have hpl : ∀ c : Rat, rz c ≤ 100000 → Pl.le ⟨p.n, c⟩ 100000 := fun c hc => ⟨hp.mono (by omega), hc⟩
 obtain ⟨n1, n2⟩ := parts_len ⟨p.n, hi⟩ L
 have u1 := parts_low (p := ⟨p.n, hi⟩) (l := L) (in_points fun x hx => by
  have := (hr.2.2 x hx).2
  unfold Pl.height
  rw [dot_comm]
  grind)
 have u2 := parts_high (p := ⟨p.n, lo - 1⟩) (l := L) (in_points fun x hx => by
  have := (hr.2.2 x hx).1
  unfold Pl.height
  rw [dot_comm]
  grind)
 refine ⟨rtx (lo - 1), fun w hB => ?_, fun A cap w hB hv => ?_, fun A cap w hB hv => ?_, fun A cap w hB hv => ?_⟩
 ·have := rSub_walk lo 1 (by have := hr.1; omega) (by omega) w hB
  rwa [rtx_one] at this
 ·have := cBelow13 (p := ⟨p.n, hi⟩) (L := L) h0 (hpl _ (by have := hr.2.1; omega)) hL5 hk _ w hB hv (by rw [u1.1]; omega)
  rwa [u1.1] at this
 ·have := cAbove13 (p := ⟨p.n, lo - 1⟩) (L := L) h0 (hpl _ hlo) hL5 hk _ w hB hv (by rw [u2.2]; omega)
  rwa [u2.2] at this
 ·have := cBelow13 (p := ⟨p.n, lo - 1⟩) (L := L) h0 (hpl _ hlo) hL5 hk _ w hB hv (by rw [u2.1]; exact Nat.zero_le _)
  rw [u2.1] at this
  exact this.mono fun e w' h => sol_e h
theorem clipAgain_walk (v : Value) (l : List TV) (s : SV) (c : ByteArray) (hc : c.size ≤ maxLen) (w : World) (hB : Bw w) (hv : Ts w v l) :
  Calls Tryz.prog 8 #[v, .agg #[.string s.x, .string s.y, .string s.z, .string c]] w fun e w' => e = .returned (.bool true) ∧ Below w.heap.size w w' := by
 obtain ⟨A, cap, rfl, -, -, -⟩ := hv.open
 have hfw := fun w hv => few13_walk (.slice A l.length cap) l s c hc w hv
 cases hf : few13 l s c with
 | false =>
  rw [hf] at hfw
  exact again_out A l.length cap l _ _ _ _ w hB hv hfw
 | true =>
  rw [hf] at hfw
  by_cases hn : 24 < l.length
  ·exact again_many A l.length cap l _ _ _ _ w hB hv (by omega) hfw
  have hn24 : (l.length : Int) ≤ 24 := by omega
  have hcl := clone13 l (few13_len hf)
  have hfe := few_tle (few13_parts hf).1
  rcases in13 hf with ⟨L, p, rfl, rfl, rfl, h0, hp, hL, hk, hl⟩ | hz
  ·have hp5 : p.le 100000 := ⟨hp.1.mono (by omega), by have := hp.2; omega⟩
   have hL5 : leT L 100000 := leT_mono hL (by omega)
   obtain ⟨q1, q2, q3, q4, q5⟩ := parts_le (n := 100000) hp hL (by omega)
   obtain ⟨n1, n2⟩ := parts_len p L
   have hkD := under_ck (p := p) hk (by omega)
   obtain ⟨a1, a2⟩ := under_again p L
   have hPt : ∀ v w, Bw w → Ts w v (L.map txt) → _ := fun v w hB hv => mPoints_ok v (L.map txt) w hB hv hfe hk
   rw [points_txt] at hPt
   have hD2 : ∀ A cap w, Bw w → Ts w (.slice A ((underL p L).map txt).length cap) ((underL p L).map txt) → _ := fun A cap w hB hv => cBelow13 (p := p) (L := underL p L) h0 hp5 q4 hkD _ w hB hv (by rw [a1]; omega)
   rw [a1] at hD2
   have hD3 : ∀ A cap w, Bw w → Ts w (.slice A ((underL p L).map txt).length cap) ((underL p L).map txt) → _ := fun A cap w hB hv => (cAbove13 (p := p) (L := underL p L) h0 hp5 q4 hkD _ w hB hv (by rw [a2]; exact Nat.zero_le _)).mono fun e w' h => by
    rw [a2] at h
    exact sol_e h
   have hcd := clone13 ((underL p L).map txt) (by rw [List.length_map]; omega)
   by_cases hps : (tvs (pointsL L)).length = 0
   ·exact again_none A _ cap _ _ _ _ _ w hB hv ((underL p L).map txt) _ rfl (tvs (pointsL L)) hn24 hfw hcl (fun A cap w hB hv => cBelow13 h0 hp5 hL5 hk _ w hB hv (by omega)) hcd hD2 hD3 hPt hps
   ·refine again_at A _ cap _ _ _ _ _ w hB hv ((underL p L).map txt) _ rfl (tvs (pointsL L)) hn24 hfw hcl (fun A cap w hB hv => cBelow13 h0 hp5 hL5 hk _ w hB hv (by omega)) hcd hD2 hD3 hPt (by omega) ?_
    intro v w hB hv
    rw [tvs_length] at hps
    refine (vRange_walk (a := p.n) (l := pointsL L) (by omega) (by have := points_len L; omega) (mem_points hL) hp.1 v w hB hv).mono ?_
    rintro e w' ⟨r, rfl, ⟨lo, hi, rfl, hr⟩, g⟩
    refine ⟨_, rfl, ⟨_, _, rfl, ?_⟩, g⟩
    rw [List.length_map]
    exact ends_ok h0 hp.1 hL hk hl hr
  ·obtain ⟨b1, b2, b3⟩ := bad13 hf hz
   exact again_bad A _ cap l _ _ _ _ w hB hv (chkS l s c) (by simpa using hz) hn24 hfw hcl (fun A cap w hB hv => b1 _ w hB hv)
/-! ### The row -/
set_option maxRecDepth 100000 in
theorem again_contract (H : Type) (enc : TypeId × Value → H) (W : World) (base : Nat) (args : Array Value) (ds gs : List (DataW H)) (before : List MemPlace)
  (hval : ∀ (j : Nat) t v, Tryz.f8.params[j]? = some t → args[j]? = some v → Value.okWide Tryz.prog W .any base t v)
  (hW : DataW.Whole enc Tryz.prog Tryz.f8.params.toList Rows.clipAgainSpec.vars false W args.toList ds gs before) (hL : laidMetH Tryz.prog Rows.clipAgainRow.laid W) (hS : W.ShapedOpen Tryz.prog) :
  Calls Tryz.prog 8 args W fun e W' => ∃ v, e = .returned v ∧ Rows.clipAgainSpec.post enc Tryz.prog Tryz.f8 false true false false W args v W' := by
 have hW' := hW
 obtain ⟨p, q, hA0, hV, rfl, hfz, hnd⟩ := hW
 have hA : DataW.TrodAll enc Tryz.prog W 0 (fun _ => true) true Tryz.f8.params.toList args.toList ds p := hA0
 rw [Tryz.params8] at hA hval
 clear hA0
 obtain ⟨v0, a0, d0, e0, p0, q0, g0, rfl, rfl, h0, hA0⟩ := trodAll_cons hA
 obtain ⟨v1, a1, d1, e1, p1, q1, rfl, rfl, rfl, h1, hA1⟩ := trodAll_cons hA0
 obtain ⟨rfl, rfl, rfl⟩ := trodAll_nil hA1
 obtain ⟨al⟩ := args
 change al = _ at g0
 subst g0
 obtain ⟨rfl, rfl⟩ := trodVars_none hV
 obtain ⟨l0, hl0⟩ := open_solid (hval 0 23 v0 rfl rfl) h0
 obtain ⟨s1, c1, rfl, x1⟩ := open_plane (hval 1 28 v1 rfl rfl) h1
 have hlt0 : ∀ x ∈ p0, x.block < W.heap.size := fun x hx => hW'.lt x (by simp [hx])
 have hlt1 : ∀ x ∈ p1, x.block < W.heap.size := fun x hx => hW'.lt x (by simp [hx])
 refine (clipAgain_walk v0 l0 s1 c1 x1 W (bw_of hL hS) hl0).mono fun e W' ⟨he, hg⟩ => ?_
 subst he
 refine ⟨_, rfl, _, _, _, [], (p0 ++ (p1 ++ [])), [], hW', ?_, ?_, rfl, hg.frame _, fun h => by cases h⟩
 ·exact trodAll_cons_mk (shut_bool Tryz.underlying4 _) trodAll_mk0
 ·exact (trodAll_cons_mk (Below.trod laidOut (by kernel_rfl) (of_decide_eq_true (by kernel_rfl)) h0 hg hlt0) (trodAll_cons_mk (Below.trod laidOut (by kernel_rfl) (of_decide_eq_true (by kernel_rfl)) h1 hg hlt1) trodAll_mk0))
theorem again_laid (os : Os) : laidMet Tryz.prog Rows.clipAgainRow.laid ((laidWorld os).forCall (fun _ _ => 0) ⟨#[], #[noSol, .agg #[.string ⟨#[]⟩, .string ⟨#[]⟩, .string ⟨#[]⟩, .string ⟨#[]⟩]], []⟩).memory :=
 laidMet_of_run' 8 (by kernel_rfl) (by kernel_rfl)
theorem again_reads (os : Os) {H : Type} (enc : TypeId × Value → H) : ∃ places, DataW.whole enc Tryz.prog ((laidWorld os).forCall (fun _ _ => 0) ⟨#[], #[noSol, .agg #[.string ⟨#[]⟩, .string ⟨#[]⟩, .string ⟨#[]⟩, .string ⟨#[]⟩]], []⟩).memory Tryz.f8.params.toList Rows.clipAgainSpec.vars false (#[noSol, .agg #[.string ⟨#[]⟩, .string ⟨#[]⟩, .string ⟨#[]⟩, .string ⟨#[]⟩]] : Array Value).toList 8 = some ([.nil, .agg [.agg [.lit (.string []), .lit (.string []), .lit (.string [])], .lit (.string [])]], [], places) :=
 ⟨[], by kernel_rfl⟩
set_option maxRecDepth 100000 in
theorem again_lifted (os : Os) (started : os.Started) (H : Type) (enc : TypeId × Value → H) (F : Stop.Interp) :
  ReturnsInHanded {} Tryz.checked os 8 .any ((OpenSpec.ofChange Rows.clipAgainSpec).preRow enc Tryz.prog Tryz.f8 Rows.clipAgainRow.domain false Rows.clipAgainRow.laid) (((OpenSpec.ofChange Rows.clipAgainSpec).at F).post enc Tryz.prog Tryz.f8 false true false false) := by
 obtain ⟨places, hx⟩ := again_reads os enc
 refine returnsInHanded_of_row (C := Tryz.checked) (s := OpenSpec.ofChange Rows.clipAgainSpec) own started (by kernel_rfl) Tryz.func8
  (witness_row_at (enc := enc) (C := Tryz.checked) false (laidWorld os) #[noSol, .agg #[.string ⟨#[]⟩, .string ⟨#[]⟩, .string ⟨#[]⟩, .string ⟨#[]⟩]] rfl (by kernel_rfl) (by kernel_rfl) (by kernel_rfl)
   (OpenSpec.preRow_of_cond 8 hx (by kernel_rfl) (fun k hk => by cases hk) (by kernel_rfl) (again_laid os))) ?_
 intro W base args ds gs before hval hW _ _ _ hL hS _
 exact again_contract H enc W base args ds gs before hval hW hL hS
theorem again_said : Rows.ClipAgainSaid :=
 OpenClaim.holds_of_cond 8 Tryz.f8 rfl rfl rfl rfl rfl rfl rfl ⟨rfl, rfl, rfl, rfl, rfl⟩ rfl rfl rfl rfl rfl (by kernel_rfl) Tryz.func8 (by kernel_rfl)
  (of_decide_eq_true (by kernel_rfl)) (by unfold Func.isWrapper; first | (rw [if_pos (by decide +kernel)]; kernel_rfl) | (rw [if_neg (by decide +kernel)]; exact ⟨rfl, rfl⟩))
  (fun os started H enc _ F => by rw [OpenClaim.pre_eq_preRow]; exact again_lifted os started H enc F)
theorem again_plain (f : FuncId) (fn : Func) (hf : Tryz.pinned.checked.prog.funcNamed "garboard/garboardlaw13.ClipAgain" = some f) (hfn : Tryz.pinned.checked.prog.funcs[f]? = some fn) :
  true = Tryz.pinned.checked.prog.looks [] ∧ ∀ (j : Nat) t, fn.params[j]? = some t → Tryz.pinned.checked.prog.wantsStandIn t = false := by
 obtain rfl : f = 8 := Option.some.inj ((show Tryz.prog.funcNamed "garboard/garboardlaw13.ClipAgain" = some 8 by kernel_rfl).symm.trans hf) |>.symm
 obtain rfl : fn = Tryz.f8 := (Option.some.inj (Tryz.func8.symm.trans hfn)).symm
 refine ⟨by kernel_rfl, fun j t ht => ?_⟩
 rw [Tryz.params8] at ht
 have : t = 23 ∨ t = 28 := by simpa using Array.mem_of_getElem? ht
 rcases this with rfl | rfl
 ·exact (show Tryz.prog.wantsStandIn 23 = false by kernel_rfl)
 ·exact (show Tryz.prog.wantsStandIn 28 = false by kernel_rfl)
theorem clipAgain_holds : Rows.ClipAgainCardSaid :=
 Claim7.holds_tied_plain_at .later [] _ _ _ _ again_said (fun _ h => by cases h) (by kernel_rfl) (fun _ h => by cases h) clipAgain_row_tie rfl ⟨rfl, rfl⟩ (by kernel_rfl) rfl again_plain (by kernel_rfl)
#print axioms clipAgain_holds
end Go.Proofs.YtopfedbhkfdjkaaGreatDoor
