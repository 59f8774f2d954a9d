/- natural: divide, the long division: for every two numbers of two words or more. -/
import Derived.Test.YtbnbaokamccmjaaGreatDoorNa6
import Derived.Deep.CutBlock
set_option linter.unusedVariables false
set_option linter.unusedSimpArgs false
namespace Go.Proofs.YtbnbaokamccmjaaGreatDoor
open Go Go.RowKit


theorem Own.far {w : World} {base g cap n : Nat} {l : List Nat} (h : Own w base (.slice (some ⟨g, 0, none⟩) n cap) l) {p : Addr} (hp : p.block ≠ g) (x : Value) : Own (w.setCell p x) base (.slice (some ⟨g, 0, none⟩) n cap) l := by
  refine ⟨h.1, ?_⟩
  rcases h.2 with ⟨h1, _⟩ | ⟨g', cap', cur, h1, h2, h3, h4⟩
  · cases h1
  · simp only [Value.slice.injEq, Option.some.injEq, Addr.mk.injEq] at h1
    obtain ⟨⟨rfl, _, _⟩, _, _⟩ := h1
    exact .inr ⟨g, cap', cur, by simp_all, h2, (Below.heap_setCell w p x g (fun e => hp e.symm)).trans h3, h4⟩
theorem Own.drewN {w : World} {base : Nat} {v : Value} {l : List Nat} (h : Own w base v l) (k : Nat) : Own (w.drewN k) base v l := h

/-- The memory of a long division: the dividend's words l, the divisor's words vl, the quotient's words qs, each in a row of its own. -/
structure Dst (w0 wr : World) (gu gv gq cu cv cq : Nat) (l vl qs : List Nat) : Prop where
  u : Own wr w0.heap.size (.slice (some ⟨gu, 0, none⟩) l.length cu) l
  v : Own wr w0.heap.size (.slice (some ⟨gv, 0, none⟩) vl.length cv) vl
  q : Own wr w0.heap.size (.slice (some ⟨gq, 0, none⟩) qs.length cq) qs
  uv : gu ≠ gv
  uq : gu ≠ gq
  vq : gv ≠ gq
  hu : w0.heap.size ≤ gu
  hq : w0.heap.size ≤ gq
  b : Below w0.heap.size w0 wr
theorem Dst.drewN {w0 wr : World} {gu gv gq cu cv cq : Nat} {l vl qs : List Nat} (h : Dst w0 wr gu gv gq cu cv cq l vl qs) (k : Nat) : Dst w0 (wr.drewN k) gu gv gq cu cv cq l vl qs :=
  ⟨h.u, h.v, h.q, h.uv, h.uq, h.vq, h.hu, h.hq, below_drewN h.b k⟩
theorem Dst.set_u {w0 wr : World} {gu gv gq cu cv cq : Nat} {l vl qs : List Nat} (h : Dst w0 wr gu gv gq cu cv cq l vl qs) (j y : Nat) :
    Dst w0 (wr.setCell ⟨gu, j, none⟩ (.int .u32 (y : Int))) gu gv gq cu cv cq (l.set j y) vl qs :=
  ⟨by have := h.u.set j y; rw [List.length_set] at *; exact this, h.v.far h.uv _, h.q.far h.uq _, h.uv, h.uq, h.vq, h.hu, h.hq, h.b.setCell h.hu _⟩
theorem Dst.set_q {w0 wr : World} {gu gv gq cu cv cq : Nat} {l vl qs : List Nat} (h : Dst w0 wr gu gv gq cu cv cq l vl qs) (j y : Nat) :
    Dst w0 (wr.setCell ⟨gq, j, none⟩ (.int .u32 (y : Int))) gu gv gq cu cv cq l vl (qs.set j y) :=
  ⟨h.u.far (fun e => h.uq e.symm) _, h.v.far (fun e => h.vq e.symm) _, by have := h.q.set j y; rw [List.length_set] at *; exact this, h.uv, h.uq, h.vq, h.hu, h.hq, h.b.setCell h.hq _⟩

theorem msub_nat {l0 v l : List Nat} {j g i c b pp c' pm d' b' : Nat} (h : Msub l0 v j g i l c b) (hv : Okw v) (hg : g ≤ 1000000000) (hi : i < v.length) (hj : j + i < l0.length)
    (hpp : pp = g * wd v i + c) (hc : c' = pp / 1000000000) (hpm : pm = pp % 1000000000) (hd : wd l (i + j) + 1000000000 * b' = d' + pm + b) (hb : b' ≤ 1) (hd' : d' ≤ 999999999) :
    Msub l0 v j g (i + 1) (l.set (i + j) d') c' b' := by
  have e1 : (pp : Int) = g * wd v i + c := by rw [hpp]; push_cast; rfl
  have e2 := (msub_next h hv hg hi hj (p := (pp : Int)) (d := (wd l (i + j) : Int) - (pp : Int) % 1000000000 - b) (d' := (d' : Int)) (b' := (b' : Int)) e1 rfl (by omega)).1
  rw [Int.toNat_natCast, Int.toNat_natCast] at e2
  have e3 : ((pp : Int) / 1000000000).toNat = c' := by omega
  rwa [e3] at e2

set_option maxRecDepth 100000 in
set_option maxHeartbeats 20000000 in
theorem divide_long (v u : Value) (n m : Nat) (hlt : m ≤ n) (hk : 2 ≤ (wds m).length) (hn : wB * wB ≤ n) (w : World) (h : Num w v n) (g : Num w u m) (hf : (wds n).length ≤ 900000000) :
    Calls Tryz.prog 209 #[v, u] w (Ret2 fun v1 v2 w' => Num w' v1 (n / m) ∧ Num w' v2 (n % m) ∧ Below w.heap.size w w') := by
  obtain ⟨An, capn, rfl, _, _, _⟩ := h.open
  have hc : ¬ cmpN n m < 0 := by unfold cmpN; split <;> (try split) <;> omega
  have hml : (wds m).length ≤ (wds n).length := wds_mono_length hlt
  have k1 : (((wds m).length : Int) == 1) = false := beq_eq_false_iff_ne.2 (by omega)
  obtain ⟨f, hfe⟩ : ∃ f, f = wB / (wd (wds m) ((wds m).length - 1) + 1) := ⟨_, rfl⟩
  obtain ⟨n1, n2, n3, n4⟩ := norm_div rfl (by omega) hfe
  obtain ⟨t1, t2, t3, t4⟩ := top_word (n := m) rfl (by omega)
  obtain ⟨tp, htp⟩ : ∃ tp, tp = wd (wds m) ((wds m).length - 1) := ⟨_, rfl⟩
  rw [← htp] at hfe t1 t2 t3 t4
  have tp1 : (1 : Int) ≤ tp := by omega
  have tp2 : (tp : Int) ≤ 999999999 := by rw [wB_eq] at t4; omega
  have hfI : (1000000000 : Int) / ((tp : Int) + 1) = f := by rw [hfe, wB_eq, Int.natCast_ediv]; rfl
  have q0 : (0 : Int) ≤ (1000000000 : Int) / ((tp : Int) + 1) := by rw [hfI]; exact Int.natCast_nonneg _
  have q1 : (1000000000 : Int) / ((tp : Int) + 1) ≤ 999999999999999999 := by rw [hfI]; omega
  have Hn := Lib.hid hn
  have HF := Lib.hid hfI
  have Hfe := Lib.hid hfe
  have Htp := Lib.hid htp
  clear hn hfI hfe htp t1 t2 t3 t4
  go_enter Tryz.func209, Tryz.ntmps209
  go_wp2_with fail
  refine (compare_walk _ u n m w h g).mono ?_
  rintro e w1 ⟨rfl, hb⟩
  go_wp2_with fail
  refine (small_walk _ n w1 (h.below hb)).mono ?_
  rintro e w2 ⟨rfl, hb2⟩
  rw [smallOf, if_neg (Nat.not_lt.2 Hn.out), decide_eq_false (Nat.not_lt.2 Hn.out)]
  have hb3 := below_then hb hb.size hb2
  go_wp2_with fail
  refine (small_walk u m w2 (g.below hb3)).mono ?_
  rintro e w3 ⟨rfl, hb4⟩
  generalize smallOf m = sm
  generalize decide (m < wB * wB) = bm
  have hb5 := below_then hb3 hb3.size hb4
  have h5 := h.below hb5
  have g5 := g.below hb5
  clear hb hb2 hb3 hb4 h g hc
  obtain ⟨A, cap, rfl, gn, gc, gcell⟩ := g5.open
  obtain ⟨b, off, rfl, hcl⟩ := gcell (by omega)
  have hck := hcl ((wds m).length - 1) (by omega)
  rw [← Htp.out] at hck
  clear gcell hcl
  go_wp2_with fail
  refine (of_int _ q0 q1 _).mono ?_
  rintro e w4 ⟨vf, rfl, f1, f2⟩
  rw [HF.out, Int.toNat_natCast] at f1
  have hb6 := below_then hb5 hb5.size f2
  have h6 := h5.below f2
  have g6 : Num w4 (.slice (some ⟨b, off, none⟩) (wds m).length cap) m := g5.below f2
  have ff : (wds f).length ≤ 1 := wds_lt_pow (by rw [Nat.pow_one, wB_eq]; omega)
  clear q0 q1 hck hb5 h5 g5 f2 tp1 tp2
  go_wp2_with fail
  refine (times_walk _ _ n f w4 h6 f1.num (by omega) (by omega)).mono ?_
  rintro e w5 ⟨v83, rfl, x1, x2⟩
  have lnf : (wds (n * f)).length ≤ (wds n).length + 1 := by
    refine wds_lt_pow ?_
    have a1 := lt_wds_pow n
    have a2 : n * f < wB ^ (wds n).length * wB := Nat.mul_lt_mul_of_lt_of_le a1 (by rw [wB_eq]; omega) wB_pos
    rw [Nat.pow_succ]; exact a2
  have lnn : (wds n).length ≤ (wds (n * f)).length := wds_mono_length (Nat.le_mul_of_pos_right _ n3)
  go_wp2_with (at_builtin; refine append_word (w0 := w4) w4.heap.size rfl (.tmp 83) (.tmp 84) 212 rfl Tryz.underlying212 info_u32 _ (wds (n * f)) 0 _ rfl rfl rfl x1 x2 x2.size (by omega) ?_; intro v85 w6 hown6 hb8 hg6)
  go_wp2_with fail
  refine (times_walk _ _ m f w6 (g6.below hb8) (f1.below hb8).num (by omega) (by omega)).mono ?_
  rintro e w7 ⟨v88, rfl, y1, y2⟩
  obtain ⟨l0, hl0⟩ : ∃ l0, l0 = wds (n * f) ++ [0] := ⟨_, rfl⟩
  have hl0l : l0.length = (wds (n * f)).length + 1 := by rw [hl0]; simp
  obtain ⟨vl, hvl⟩ : ∃ vl, vl = wds (m * f) := ⟨_, rfl⟩
  have hvll : vl.length = (wds m).length := by rw [hvl, n1]
  have Y1 : Own w7 w6.heap.size v88 vl := by rw [hvl]; exact y1
  rw [← hl0] at hown6
  obtain ⟨gu, cu, rfl, u1, u2⟩ := hown6.at (by omega)
  obtain ⟨gv, cv, rfl, u3, u4⟩ := Y1.at (by omega)
  have hmk := fun W => make_full 212 Tryz.underlying212 ((l0.length : Int) - (vl.length : Int)) (l0.length - vl.length) (by omega) (by omega) W
  have k3 : ((l0.length : Int) == ((wds n).length : Int)) = false := beq_eq_false_iff_ne.2 (by omega)
  have hst : Dst w4 (w7.alloc (.cells (madeCells #[.int .u32 0] (l0.length - vl.length)) 184)) gu gv w7.heap.size cu cv (l0.length - vl.length) l0 vl (List.replicate (l0.length - vl.length) 0) := by
    have e2 := hb8.size
    have e3 := y2.size
    refine ⟨?_, ?_, ?_, by omega, by omega, by omega, by omega, by omega, ?_⟩
    · exact (hown6.below y2).below ((Below.refl _ _).alloc (Nat.le_refl _) _)
    · exact (Y1.base e2).below ((Below.refl _ _).alloc (Nat.le_refl _) _)
    · have := own_made w7 (l0.length - vl.length) (by omega)
      rw [List.length_replicate]
      exact this.base (by omega)
    · exact (below_then hb8 e2 y2).alloc (by omega) _
  have hb0 : l0.length ≤ 1000000000 := by omega
  have hb1 : vl.length + 1 ≤ l0.length := by omega
  have hb2 : 2 ≤ vl.length := by omega
  have HL0 := Lib.hid hl0
  have HVL := Lib.hid hvl
  have HLL := Lib.hid hl0l
  have HVV := Lib.hid hvll
  have F1 := Lib.hid f1.num
  have HB6 := Lib.hid hb6
  clear hown6 Y1 y1 hl0 hvl hl0l hvll x1 x2 f1 h6 g6 hb6 hb8 y2 hg6
  go_wp2_with fail
  clear hmk
  obtain ⟨Lq, hLq⟩ : ∃ Lq, Lq = l0.length - vl.length := ⟨_, rfl⟩
  obtain ⟨gq, hgq⟩ : ∃ gq, gq = w7.heap.size := ⟨_, rfl⟩
  rw [← hLq, ← hgq] at hst ⊢
  have hLu : l0.length = Lq + vl.length := by omega
  have HLu := Lib.hid hLu
  have hdv : Dv (n * f) (m * f) l0.length Lq Lq l0 (List.replicate Lq 0) := by
    have := dv_start (U := n * f) (V := m * f) (Lu := l0.length) (k := vl.length) (l := l0) rfl (by rw [HL0.out]; exact (okw_wds _).append (Okw.cons wB_pos Okw.nil)) (by rw [HL0.out, val_snoc, val_wds, Nat.mul_zero, Nat.add_zero]) (by omega)
      (by rw [HLL.out, Nat.add_sub_cancel, HL0.out, wd_last]) (le_of_wds_length (by rw [← HVL.out]; omega)) (by omega)
    rw [← hLq] at this
    exact this
  clear hLq hgq hLu k3 k1
  go_loopw [15] (fun jj wr => ∃ (t : Nat) (l qs : List Nat), t ≤ Lq ∧ jj = .int .i64 ((t : Int) - 1) ∧ Dv (n * f) (m * f) l0.length Lq t l qs ∧ Dst w4 wr gu gv gq cu cv Lq l vl qs) (fun jj _ => (intOf jj + 1).toNat)
  case atStart => exact ⟨Lq, _, _, Nat.le_refl _, rfl, hdv, hst⟩
  case round =>
    obtain ⟨t, l, qs, ht, rfl, hd, hs⟩ := hrel
    clear hdv hst
    by_cases h0 : t = 0
    · subst h0
      obtain ⟨d1, d2⟩ := dv_end hd
      have hokl := hd.2.1
      have hokq := hd.2.2.2.1
      have hql := hd.2.2.1
      have hll := hd.1
      have hvalv : val vl = m * f := by rw [HVL.out, val_wds]
      have hVk : m * f < wB ^ vl.length := by
        have hokv : Okw vl := by rw [HVL.out]; exact okw_wds _
        have := val_lt hokv
        rwa [hvalv] at this
      have hV0 : 0 < m * f := by have := hd.2.2.2.2.1; omega
      have hlt2 : val l < wB ^ vl.length := by rw [d2]; exact Nat.lt_trans (Nat.mod_lt _ hV0) hVk
      have hvt : val (l.take vl.length) = val l := val_take_zero (by have := HLu.out; omega) (fun jj h1 _ => wd_zero_of_lt hlt2 h1)
      have hm0 : 0 < m := Nat.pos_of_mul_pos_right hV0
      have e1 : n * f / (m * f) = n / m := Nat.mul_div_mul_right n m n3
      have e2 : n * f % (m * f) = n % m * f := Nat.mul_mod_mul_right f n m
      have hfs : f < wB * wB := by rw [wB_eq]; omega
      have hcu : vl.length ≤ cu := by
        obtain ⟨A', cap', hv', hn', _⟩ := hs.u.form
        cases hv'
        have := HLu.out
        omega
      have D1 := Lib.hid d1
      have D2 := Lib.hid d2
      have HVT := Lib.hid hvt
      have E1 := Lib.hid e1
      have E2 := Lib.hid e2
      have HQL := Lib.hid hql
      have HLL2 := Lib.hid hll
      have HLT := Lib.hid hlt2
      have HFS := Lib.hid hfs
      have HM0 := Lib.hid hm0
      clear d1 d2 hvt e1 e2 hql hll hlt2 hvalv hVk hV0 hfs hm0 hd
      go_wp2_with fail
      refine (small_walk vf f wr (F1.out.below hs.b)).mono ?_
      rintro e w8 ⟨rfl, hb9⟩
      rw [smallOf, if_pos HFS.out, decide_eq_true HFS.out]
      have hbf : (f : Int) ≤ 500000000 := by omega
      go_wp2_with fail
      have hu8 := hs.u.below hb9
      have hq8 := hs.q.below hb9
      have htk := hu8.take vl.length (by have := HLL2.out; have := HLu.out; omega)
      have hlt3 : (l.take vl.length).length = vl.length := by rw [List.length_take]; have := HLL2.out; omega
      have htk2 : U32 w8 (.slice (some ⟨gu, 0, none⟩) (l.take vl.length).length cu) (l.take vl.length) := by rw [hlt3]; exact htk.u32
      have hTW := trim_walk (some ⟨gu, 0, none⟩) (l.take vl.length) cu w8 htk2 (hokl.take _)
      rw [hlt3] at hTW
      refine hTW.mono ?_
      rintro e w9 ⟨rfl, rfl⟩
      rw [HVT.out]
      have hnum : Num w9 (.slice (some ⟨gu, 0, none⟩) (wds (val l)).length cu) (val l) := by
        have := U32.take htk2 (wds (val (l.take vl.length))).length (take_wds (hokl.take _)).2
        rw [(take_wds (hokl.take _)).1, HVT.out] at this
        exact this
      go_wp2_with fail
      refine (by_walk _ (val l) f n3 (by omega) w9 hnum (Nat.le_trans (wds_lt_pow HLT.out) (by omega))).mono ?_
      rintro e w10 ⟨v1, v2, rfl, r1, r2, r3⟩
      have hq10 := hq8.below r3
      have hTQ := trim_walk (some ⟨gq, 0, none⟩) qs Lq w10 hq10.u32 hokq
      rw [HQL.out] at hTQ
      go_wp2_with fail
      refine hTQ.mono ?_
      rintro e w11 ⟨rfl, rfl⟩
      have hqn := (hq10.trim hokq).num
      rw [D1.out, E1.out] at hqn ⊢
      rw [D2.out, E2.out, Nat.mul_div_cancel _ (by omega : 0 < f)] at r1
      go_wp2
      go_ret2
      exact ⟨_, _, rfl, hqn, r1.num, below_then HB6.out HB6.out.size (below_then (below_then hs.b hs.b.size hb9) (below_then hs.b hs.b.size hb9).size r3)⟩
    · obtain ⟨j, rfl⟩ : ∃ j, t = j + 1 := ⟨t - 1, by omega⟩
      rw [show ((j + 1 : Nat) : Int) - 1 = (j : Int) by omega]
      have hll := hd.1
      have hql := hd.2.2.1
      have hLu := HLu.out
      obtain ⟨p1, hp1⟩ : ∃ p1, p1 = j + vl.length := ⟨_, rfl⟩
      obtain ⟨k1, hk1⟩ : ∃ k1, k1 + 1 = vl.length := ⟨vl.length - 1, by omega⟩
      obtain ⟨p2, hp2⟩ : ∃ p2, p2 + 1 = p1 := ⟨p1 - 1, by omega⟩
      obtain ⟨p3, hp3⟩ : ∃ p3, p3 + 1 = p2 := ⟨p2 - 1, by omega⟩
      obtain ⟨k2, hk2⟩ : ∃ k2, k2 + 1 = k1 := ⟨k1 - 1, by omega⟩
      have cu1 := hs.u.cell p1 (by omega)
      have cu2 := hs.u.cell p2 (by omega)
      have cv1 := hs.v.cell k1 (by omega)
      have lp1 : p1 < l0.length := by omega
      have lp2 : p2 < l0.length := by omega
      have lk1 : k1 < vl.length := by omega
      have s1 : (j : Int) + (vl.length : Int) = (p1 : Int) := by omega
      have w1' : IntKind.i64.wrap (p1 : Int) = (p1 : Int) := IntWalk.i64_in _ (by omega)
      have s2 : (p1 : Int) - 1 = (p2 : Int) := by omega
      have w2' : IntKind.i64.wrap (p2 : Int) = (p2 : Int) := IntWalk.i64_in _ (by omega)
      have s4 : (vl.length : Int) - 1 = (k1 : Int) := by omega
      have w4' : IntKind.i64.wrap (k1 : Int) = (k1 : Int) := IntWalk.i64_in _ (by omega)
      have bu1 := word_lt hd.2.1 p1
      have bu2 := word_lt hd.2.1 p2
      have bv1 := word_lt (okw_wds (m * f)) k1
      rw [← HVL.out] at bv1
      obtain ⟨x1, hx1⟩ : ∃ x1, x1 = wd l p1 * wB := ⟨_, rfl⟩
      have s6 : (wd l p1 : Int) * 1000000000 = (x1 : Int) := by rw [hx1, wB_eq]; omega
      have bx1 : (x1 : Int) ≤ 999999999000000000 := by omega
      have w6' : IntKind.u64.wrap (x1 : Int) = (x1 : Int) := IntWalk.u64_in _ (by omega)
      obtain ⟨T, hT⟩ : ∃ T, T = x1 + wd l p2 := ⟨_, rfl⟩
      have s7 : (x1 : Int) + (wd l p2 : Int) = (T : Int) := by omega
      have bT : (T : Int) ≤ 999999999999999999 := by omega
      have w7' : IntKind.u64.wrap (T : Int) = (T : Int) := IntWalk.u64_in _ (by omega)
      have cu3 := hs.u.cell p3 (by omega)
      have cv2 := hs.v.cell k2 (by omega)
      have lp3 : p3 < l0.length := by omega
      have lk2 : k2 < vl.length := by omega
      have s3 : (p1 : Int) - 2 = (p3 : Int) := by omega
      have w3' : IntKind.i64.wrap (p3 : Int) = (p3 : Int) := IntWalk.i64_in _ (by omega)
      have s5 : (vl.length : Int) - 2 = (k2 : Int) := by omega
      have w5' : IntKind.i64.wrap (k2 : Int) = (k2 : Int) := IntWalk.i64_in _ (by omega)
      have hokv : Okw vl := by rw [HVL.out]; exact okw_wds _
      have hvalv : val vl = m * f := by rw [HVL.out, val_wds]
      have hkn := kn_of hd hokv hvalv rfl (by omega) (by rw [HVL.out, n1]; exact n2) hLu (by omega)
      rw [show j + vl.length - 1 = p2 by omega, show j + vl.length - 2 = p3 by omega, ← hp1, show vl.length - 1 = k1 by omega, show vl.length - 2 = k2 by omega, ← hx1, ← hT] at hkn
      obtain ⟨q, hq⟩ : ∃ q, q = val (l.drop j) / (m * f) := ⟨_, rfl⟩
      rw [← hq] at hkn
      obtain ⟨st1, st2, st3, st4⟩ := hkn.start
      have hv0 : ¬ wd vl k1 = 0 := by have := hkn.half; have := wB_eq; omega
      have hv1 : (1 : Int) ≤ wd vl k1 := by omega
      have bu3 := word_lt hd.2.1 p3
      have bv2 := word_lt hokv k2
      obtain ⟨g0, hg0⟩ : ∃ g0, g0 = T / wd vl k1 := ⟨_, rfl⟩
      obtain ⟨r0, hr0⟩ : ∃ r0, r0 = T % wd vl k1 := ⟨_, rfl⟩
      rw [← hg0] at st1 st2 st3
      rw [← hr0] at st3 st4
      have bg0 : (g0 : Int) ≤ 1000000001 := by rw [wB_eq] at st2; omega
      have s8 : (T : Int) / (wd vl k1 : Int) = (g0 : Int) := by rw [hg0, Int.natCast_ediv]
      have s8' : (T : Int).tdiv (wd vl k1 : Int) = (g0 : Int) := by rw [Int.tdiv_eq_ediv_of_nonneg (Int.natCast_nonneg _)]; exact s8
      have w8' : IntKind.u64.wrap (g0 : Int) = (g0 : Int) := IntWalk.u64_in _ (by omega)
      have s9 : (T : Int) % (wd vl k1 : Int) = (r0 : Int) := by rw [hr0, Int.natCast_emod]
      have s9' : (T : Int).tmod (wd vl k1 : Int) = (r0 : Int) := by rw [Int.tmod_eq_emod_of_nonneg (Int.natCast_nonneg _)]; exact s9
      have HQ := Lib.hid hq
      have HKN := Lib.hid hkn
      have S1 := Lib.hid st1
      have S3 := Lib.hid st3
      have S2 := Lib.hid st2
      have S4 := Lib.hid st4
      have HVV2 := Lib.hid hvalv
      have HG0 := Lib.hid hg0
      have HR0 := Lib.hid hr0
      clear hq hkn st1 st2 st3 st4 hvalv hg0 hr0
      have HX := Lib.hid hx1
      have HT := Lib.hid hT
      have HP1 := Lib.hid hp1
      have HP2 := Lib.hid hp2
      have HP3 := Lib.hid hp3
      have HK1 := Lib.hid hk1
      have HK2 := Lib.hid hk2
      have HLL2 := Lib.hid hll
      have HQL := Lib.hid hql
      clear hLu hx1 hT hp1 hp2 hp3 hk1 hk2 hll hql
      go_wp2
      go_quiet (fail)
      go_wp2
      go_quiet (fail)
      go_upto_block 3 with (fail)
      go_cut [17] (fun s17 wx => ∃ g : Nat, s17 = .int .u64 g ∧ (g = q ∨ g = q + 1) ∧ g < wB ∧ Dst w4 wx gu gv gq cu cv Lq l vl qs)
      case first =>
        go_wp2
        go_loopw [17, 18] (fun gg rr wx => ∃ g r : Nat, gg = .int .u64 g ∧ rr = .int .u64 r ∧ g * wd vl k1 + r = T ∧ q ≤ g ∧ g ≤ wB + 1 ∧ r < wB ∧ Dst w4 wx gu gv gq cu cv Lq l vl qs) (fun gg _ _ => (intOf gg).toNat)
        case atStart => exact ⟨g0, r0, rfl, rfl, S3.out, S1.out, S2.out, S4.out, (hs.drewN _).drewN _⟩
        case round =>
          clear cu1 cu2 cu3 cv1 cv2 s8 s8' s9 s9' w8' bg0 hs
          obtain ⟨g, r, rfl, rfl, he, hqg, hgB, hrB, hs⟩ := hrel
          have cu3 := hs.u.cell p3 (by have := HLL2.out; omega)
          have cv1 := hs.v.cell k1 lk1
          have cv2 := hs.v.cell k2 lk2
          have br : (r : Int) ≤ 999999999 := by rw [wB_eq] at hrB; omega
          obtain ⟨r2, hr2⟩ : ∃ r2, r2 = r + wd vl k1 := ⟨_, rfl⟩
          have s14 : (r : Int) + (wd vl k1 : Int) = (r2 : Int) := by omega
          have br2 : (r2 : Int) ≤ 1999999998 := by omega
          have HE := Lib.hid he
          have HQG := Lib.hid hqg
          have HGB := Lib.hid hgB
          have HRB := Lib.hid hrB
          have HR2 := Lib.hid hr2
          clear he hqg hgB hrB hr2
          by_cases hA : (1000000000 : Int) ≤ (g : Int)
          · have hA0 : True := trivial
            have hov := HKN.out.over HE.out (.inl (by rw [wB_eq]; omega))
            obtain ⟨g1, hg1⟩ : ∃ g1, g = g1 + 1 := ⟨g - 1, by omega⟩
            have he1 : g1 * wd vl k1 + r2 = T := by have := HE.out; rw [HR2.out]; rw [hg1, Nat.add_mul, Nat.one_mul] at this; omega
            have HOV := Lib.hid hov
            have HE1 := Lib.hid he1
            have HG1 := Lib.hid hg1
            have sG : (g : Int) - 1 = (g1 : Int) := by omega
            have bG : (g1 : Int) ≤ 1000000000 := by have := HGB.out; rw [wB_eq] at this; omega
            have wG : IntKind.u64.wrap (g1 : Int) = (g1 : Int) := IntWalk.u64_in _ (by omega)
            clear hov he1 hg1
            by_cases hD : (1000000000 : Int) ≤ (r2 : Int)
            · have hD' : decide ((1000000000 : Int) ≤ (r2 : Int)) = true := decide_eq_true hD
              have hfin := HKN.out.out HE1.out (by have := HGB.out; have := HG1.out; omega) (by rw [wB_eq]; omega)
              have HFIN := Lib.hid hfin
              clear hfin hD
              go_wp2
              go_quiet (fail)
              clear hA
              go_wp2
              go_meet
              case rel => exact ⟨g1, rfl, by have := HFIN.out.1; have := HOV.out; omega, HFIN.out.2, hs.drewN _⟩
            · have hD' : decide ((1000000000 : Int) ≤ (r2 : Int)) = false := decide_eq_false hD
              have HD := Lib.hid hD
              clear hD
              go_wp2
              go_quiet (fail)
              clear hA
              go_wp2
              go_roundw
              case rel => exact ⟨g1, r2, rfl, rfl, HE1.out, by have := HOV.out; omega, by have := HGB.out; omega, by have := HD.out; rw [wB_eq]; omega, hs.drewN _⟩
              case measure => have := HG1.out; simp [intOf]; omega
          · have hA' : decide ((1000000000 : Int) ≤ (g : Int)) = false := decide_eq_false hA
            have hg9 : (g : Int) ≤ 999999999 := by omega
            clear hA
            obtain ⟨gp, hgp⟩ : ∃ gp, gp = g * wd vl k2 := ⟨_, rfl⟩
            have s10 : (g : Int) * (wd vl k2 : Int) = (gp : Int) := by rw [hgp, Int.natCast_mul]
            have b10 : (gp : Int) ≤ 999999998000000001 := by
              have : g * wd vl k2 ≤ 999999999 * 999999999 := Nat.mul_le_mul (by omega) (by omega)
              omega
            have w10 : IntKind.u64.wrap (gp : Int) = (gp : Int) := IntWalk.u64_in _ (by omega)
            obtain ⟨ra, hra⟩ : ∃ ra, ra = r * wB := ⟨_, rfl⟩
            have s11 : (r : Int) * 1000000000 = (ra : Int) := by rw [hra, wB_eq]; omega
            have b11 : (ra : Int) ≤ 999999999000000000 := by omega
            have w11 : IntKind.u64.wrap (ra : Int) = (ra : Int) := IntWalk.u64_in _ (by omega)
            obtain ⟨rb, hrb⟩ : ∃ rb, rb = ra + wd l p3 := ⟨_, rfl⟩
            have s12 : (ra : Int) + (wd l p3 : Int) = (rb : Int) := by omega
            have b12 : (rb : Int) ≤ 999999999999999999 := by omega
            have w12 : IntKind.u64.wrap (rb : Int) = (rb : Int) := IntWalk.u64_in _ (by omega)
            have hrbe : rb = r * wB + wd l p3 := by rw [hrb, hra]
            have HGP := Lib.hid hgp
            have HRB2 := Lib.hid hrbe
            clear hgp hra hrb hrbe
            by_cases hC : (rb : Int) < (gp : Int)
            · have hC0 : True := trivial
              have hov := HKN.out.over HE.out (.inr (by rw [← HRB2.out, ← HGP.out]; omega))
              obtain ⟨g1, hg1⟩ : ∃ g1, g = g1 + 1 := ⟨g - 1, by omega⟩
              have he1 : g1 * wd vl k1 + r2 = T := by have := HE.out; rw [HR2.out]; rw [hg1, Nat.add_mul, Nat.one_mul] at this; omega
              have HOV := Lib.hid hov
              have HE1 := Lib.hid he1
              have HG1 := Lib.hid hg1
              have sG : (g : Int) - 1 = (g1 : Int) := by omega
              have bG : (g1 : Int) ≤ 1000000000 := by have := HGB.out; rw [wB_eq] at this; omega
              have wG : IntKind.u64.wrap (g1 : Int) = (g1 : Int) := IntWalk.u64_in _ (by omega)
              clear hov he1 hg1
              by_cases hD : (1000000000 : Int) ≤ (r2 : Int)
              · have hD' : decide ((1000000000 : Int) ≤ (r2 : Int)) = true := decide_eq_true hD
                have hfin := HKN.out.out HE1.out (by have := HGB.out; have := HG1.out; omega) (by rw [wB_eq]; omega)
                have HFIN := Lib.hid hfin
                clear hfin hD
                go_wp2
                go_quiet (fail)
                clear hC hA'
                go_wp2
                go_meet
                case rel => exact ⟨g1, rfl, by have := HFIN.out.1; have := HOV.out; omega, HFIN.out.2, hs.drewN _⟩
              · have hD' : decide ((1000000000 : Int) ≤ (r2 : Int)) = false := decide_eq_false hD
                have HD := Lib.hid hD
                clear hD
                go_wp2
                go_quiet (fail)
                clear hC hA'
                go_wp2
                go_roundw
                case rel => exact ⟨g1, r2, rfl, rfl, HE1.out, by have := HOV.out; omega, by have := HGB.out; omega, by have := HD.out; rw [wB_eq]; omega, hs.drewN _⟩
                case measure => have := HG1.out; simp [intOf]; omega
            · have hC' : decide (rb < gp) = false := decide_eq_false (by omega)
              have hfin := HKN.out.done HE.out (by rw [wB_eq]; omega) (by rw [← HRB2.out, ← HGP.out]; omega)
              have HFIN := Lib.hid hfin
              have HG9 := Lib.hid hg9
              clear hfin hC
              go_wp2
              go_quiet (fail)
              clear hA' hg9 s10 s11 s12 b10 b11 b12 w10 w11 w12 s14 br2 br
              go_wp2
              go_meet
              case rel => exact ⟨g, rfl, by have := HFIN.out; have := HQG.out; omega, by have := HG9.out; rw [wB_eq]; omega, hs.drewN _⟩
      case rest =>
        clear cu1 cu2 cu3 cv1 cv2 s8 s8' s9 s9' w8' bg0 hs s6 bx1 w6' s7 bT w7' bu1 bu2 bv1 bu3 bv2 hv0 hv1
        obtain ⟨g, rfl, hg, hgB, hs⟩ := hcut
        have bg : (g : Int) ≤ 999999999 := by rw [wB_eq] at hgB; omega
        have HG := Lib.hid hg
        clear hg hgB
        go_wp2
        go_loopw [19, 20, 181] (fun cc bb ii wx => ∃ (i c bo : Nat) (l1 : List Nat), i ≤ vl.length ∧ cc = .int .i64 c ∧ bb = .int .i64 bo ∧ ii = .int .i64 i ∧ Msub l vl j g i l1 c bo ∧ Dst w4 wx gu gv gq cu cv Lq l1 vl qs) (fun _ _ ii _ => vl.length - (intOf ii).toNat)
        case atStart => exact ⟨0, 0, 0, l, Nat.zero_le _, rfl, rfl, rfl, msub_start vl j g hd.2.1, hs⟩
        case round =>
          clear hs
          obtain ⟨i, c, bo, l1, hi, rfl, rfl, rfl, hms, hs⟩ := hrel
          have hl1 : l1.length = l0.length := by rw [hms.1]; exact HLL2.out
          have bc : (c : Int) ≤ 999999999 := by have := hms.2.2.1; rw [wB_eq] at this; omega
          have bb : (bo : Int) ≤ 1 := by have := hms.2.2.2.1; omega
          have HL1 := Lib.hid hl1
          by_cases hik : i < vl.length
          · obtain ⟨p, hp⟩ : ∃ p, p = i + j := ⟨_, rfl⟩
            have lp : p < l0.length := by have := HLu.out; omega
            have cu4 := hs.u.cell p (by omega)
            have fu4 := hs.u.free p
            have cv4 := hs.v.cell i hik
            have sp : (i : Int) + (j : Int) = (p : Int) := by omega
            have bw : (wd vl i : Int) ≤ 999999999 := word_lt hokv i
            have bl : (wd l1 p : Int) ≤ 999999999 := word_lt hms.2.1 p
            obtain ⟨gw, hgw⟩ : ∃ gw, gw = g * wd vl i := ⟨_, rfl⟩
            have sgw : (g : Int) * (wd vl i : Int) = (gw : Int) := by rw [hgw, Int.natCast_mul]
            have bgw : (gw : Int) ≤ 999999998000000001 := by
              have : g * wd vl i ≤ 999999999 * 999999999 := Nat.mul_le_mul (by omega) (by omega)
              omega
            obtain ⟨pp, hpp⟩ : ∃ pp, pp = gw + c := ⟨_, rfl⟩
            have spp : (gw : Int) + (c : Int) = (pp : Int) := by omega
            have bpp : (pp : Int) ≤ 999999999999999999 := by omega
            obtain ⟨c', hc'⟩ : ∃ c', c' = pp / 1000000000 := ⟨_, rfl⟩
            have sc' : (pp : Int) / 1000000000 = (c' : Int) := by omega
            obtain ⟨pm, hpm⟩ : ∃ pm, pm = pp % 1000000000 := ⟨_, rfl⟩
            have spm : (pp : Int) % 1000000000 = (pm : Int) := by omega
            have bpm : (pm : Int) ≤ 999999999 := by omega
            have hpp' : pp = g * wd vl i + c := by rw [hpp, hgw]
            by_cases hdn : (wd l1 p : Int) - (pm : Int) - (bo : Int) < 0
            · obtain ⟨d, hde⟩ : ∃ d : Int, d = (wd l1 p : Int) - (pm : Int) - (bo : Int) := ⟨_, rfl⟩
              obtain ⟨d', hd'⟩ : ∃ d' : Nat, (d' : Int) = d + 1000000000 := ⟨(d + 1000000000).toNat, by omega⟩
              have hnx := msub_nat hms hokv (by omega) hik (by have := HLL2.out; have := HLu.out; omega) hpp' hc' hpm (d' := d') (b' := 1) (by rw [← hp]; omega) (by omega) (by omega)
              rw [← hp] at hnx
              have hd0 : d < 0 := by omega
              have bd1 : -1000000000 ≤ d := by omega
              have sd : (wd l1 p : Int) - (pm : Int) - (bo : Int) = d := hde.symm
              have sd' : d + 1000000000 = (d' : Int) := hd'.symm
              have bd' : (d' : Int) ≤ 999999999 := by omega
              have HN := Lib.hid hnx
              clear hnx hde hd' hdn hpp' hpp hc' hpm hgw hp hl1 hms
              go_wp2
              go_roundw
              case rel => exact ⟨i + 1, c', 1, _, by omega, rfl, rfl, by go_num, HN.out, hs.set_u p d'⟩
              case measure => simp [intOf]; omega
            · obtain ⟨d', hd'⟩ : ∃ d' : Nat, (d' : Int) = (wd l1 p : Int) - (pm : Int) - (bo : Int) := ⟨((wd l1 p : Int) - (pm : Int) - (bo : Int)).toNat, by omega⟩
              have hnx := msub_nat hms hokv (by omega) hik (by have := HLL2.out; have := HLu.out; omega) hpp' hc' hpm (d' := d') (b' := 0) (by rw [← hp]; omega) (by omega) (by omega)
              rw [← hp] at hnx
              have sd : (wd l1 p : Int) - (pm : Int) - (bo : Int) = (d' : Int) := hd'.symm
              have bd' : (d' : Int) ≤ 999999999 := by omega
              have HN := Lib.hid hnx
              clear hnx hd' hdn hpp' hpp hc' hpm hgw hp hl1 hms
              go_wp2
              go_roundw
              case rel => exact ⟨i + 1, c', 0, _, by omega, rfl, rfl, by go_num, HN.out, hs.set_u p d'⟩
              case measure => simp [intOf]; omega
          · obtain rfl : i = vl.length := by omega
            have lp1' : p1 < l1.length := by omega
            have cu5 := hs.u.cell p1 lp1'
            have fu5 := hs.u.free p1
            have fq5 := hs.q.free j
            have cq5 := hs.q.cell j (by have := HQL.out; omega)
            have hVk : m * f ≤ wB ^ vl.length := by
              have := val_lt hokv
              rw [HVV2.out] at this
              omega
            have lj : j < Lq := by omega
            have hqB := HKN.out.q_lt
            have bl1 : (wd l1 p1 : Int) ≤ 999999999 := word_lt hms.2.1 p1
            have HMS := Lib.hid hms
            clear hms hi
            rcases HG.out with hgq | hgq
            · have hex := sub_exact hd HVV2.out rfl hVk HLu.out lj HMS.out (by rw [hgq]; exact HQ.out)
              rw [← HP1.out] at hex
              have sl : (wd l1 p1 : Int) - (c : Int) - (bo : Int) = 0 := hex.1
              have hnx := dv_next hd HLu.out lj hVk HQ.out hqB (l2 := l1) (by rw [HMS.out.1]; exact HLL2.out) HMS.out.2.1 (fun t ht => HMS.out.2.2.2.2.2 t (by omega)) (by rw [← hgq]; exact hex.2)
              rw [← HP1.out, ← hgq] at hnx
              have HN := Lib.hid hnx
              have HGQ := Lib.hid hgq
              clear hnx hex hgq
              go_wp2
              go_roundw
              case rel => exact ⟨j, _, _, by omega, rfl, HN.out, (hs.set_u p1 0).set_q j g⟩
              case measure => simp [intOf]
            · have hov := sub_over hd HVV2.out rfl hVk HLu.out lj HMS.out (by rw [hgq, HQ.out])
              rw [← HP1.out] at hov
              have sl : (wd l1 p1 : Int) - (c : Int) - (bo : Int) = -1 := hov.1
              have HOV := Lib.hid hov.2
              have sg : (g : Int) - 1 = (q : Int) := by omega
              have bq : (q : Int) ≤ 999999999 := by omega
              have wq : IntKind.u64.wrap (q : Int) = (q : Int) := IntWalk.u64_in _ (by omega)
              have HGQ := Lib.hid hgq
              clear hov hgq
              go_wp2
              go_loopw [25, 236] (fun cc ii wx => ∃ (i c2 : Nat) (l2 : List Nat), i ≤ vl.length ∧ cc = .int .u64 c2 ∧ ii = .int .i64 i ∧ Madd l1 vl j i l2 c2 ∧ Dst w4 wx gu gv gq cu cv Lq l2 vl qs) (fun _ ii _ => vl.length - (intOf ii).toNat)
              case atStart => exact ⟨0, 0, l1, Nat.zero_le _, rfl, rfl, madd_start vl j HMS.out.2.1, hs⟩
              case round =>
                clear hs cu5 fu5 fq5 cq5
                obtain ⟨i, c2, l2, hi, rfl, rfl, hma, hs⟩ := hrel
                have hl2 : l2.length = l0.length := by rw [hma.1]; exact HL1.out
                by_cases hik2 : i < vl.length
                · obtain ⟨p, hp⟩ : ∃ p, p = i + j := ⟨_, rfl⟩
                  have lp : p < l0.length := by have := HLu.out; omega
                  have cu4 := hs.u.cell p (by omega)
                  have fu4 := hs.u.free p
                  have cv4 := hs.v.cell i hik2
                  have sp : (i : Int) + (j : Int) = (p : Int) := by omega
                  have wp : IntKind.i64.wrap (p : Int) = (p : Int) := IntWalk.i64_in _ (by omega)
                  have bw : (wd vl i : Int) ≤ 999999999 := word_lt hokv i
                  have bl : (wd l2 p : Int) ≤ 999999999 := word_lt hma.2.1 p
                  have bc2 : (c2 : Int) ≤ 1 := by have := hma.2.2.1; omega
                  obtain ⟨sa, hsa⟩ : ∃ sa, sa = wd l2 p + wd vl i := ⟨_, rfl⟩
                  have ssa : (wd l2 p : Int) + (wd vl i : Int) = (sa : Int) := by omega
                  have bsa : (sa : Int) ≤ 1999999998 := by omega
                  have wsa : IntKind.u64.wrap (sa : Int) = (sa : Int) := IntWalk.u64_in _ (by omega)
                  obtain ⟨sb, hsb⟩ : ∃ sb, sb = c2 + sa := ⟨_, rfl⟩
                  have ssb : (c2 : Int) + (sa : Int) = (sb : Int) := by omega
                  have bsb : (sb : Int) ≤ 1999999999 := by omega
                  have wsb : IntKind.u64.wrap (sb : Int) = (sb : Int) := IntWalk.u64_in _ (by omega)
                  obtain ⟨sc, hsc⟩ : ∃ sc, sc = sb / wB := ⟨_, rfl⟩
                  have ssc : (sb : Int) / 1000000000 = (sc : Int) := by rw [wB_eq] at hsc; omega
                  obtain ⟨sm', hsm⟩ : ∃ sm', sm' = sb % wB := ⟨_, rfl⟩
                  have ssm : (sb : Int) % 1000000000 = (sm' : Int) := by rw [wB_eq] at hsm; omega
                  have bsm : (sm' : Int) ≤ 999999999 := by omega
                  have bsc : (sc : Int) ≤ 1 := by omega
                  have hnx := (madd_next hma hokv hik2 (by rw [HL1.out]; have := HLu.out; omega) (s := sb) (by rw [hsb, hsa, hp])).1
                  rw [← hp, ← hsc, ← hsm] at hnx
                  have HN := Lib.hid hnx
                  clear hnx hsa hsb hsc hsm hp hl2 hma
                  go_wp2
                  go_quiet (fail)
                  go_wp2
                  go_roundw
                  case rel => exact ⟨i + 1, sc, _, by omega, rfl, by go_num, HN.out, (hs.drewN _).set_u p sm'⟩
                  case measure => simp [intOf]; omega
                · obtain rfl : i = vl.length := by omega
                  obtain ⟨rfl, o2, o3, o4⟩ := HOV.out l2 c2 hma
                  have cu6 := hs.u.cell p1 (by omega)
                  have fu6 := hs.u.free p1
                  have fq6 := hs.q.free j
                  have cq6 := hs.q.cell j (by have := HQL.out; omega)
                  have hnx := dv_next hd HLu.out lj hVk HQ.out hqB (l2 := l2) hl2 hma.2.1 (fun t ht => o4 t (by have := HP1.out; omega)) (by have := o2; rw [HGQ.out, Nat.add_sub_cancel] at this; exact this)
                  rw [← HP1.out] at hnx
                  have HN := Lib.hid hnx
                  clear hnx o2 o3 o4 hma hl2 hi
                  go_wp2
                  go_roundw
                  case rel => exact ⟨j, _, _, by omega, rfl, HN.out, (hs.set_u p1 0).set_q j q⟩
                  case measure => simp [intOf]

/-- divide, for every number and every divisor that is not 0. -/
theorem divide_walk (v u : Value) (n m : Nat) (hm : 0 < m) (w : World) (h : Num w v n) (g : Num w u m) (hf : (wds n).length ≤ 900000000) :
    Calls Tryz.prog 209 #[v, u] w (Ret2 fun v1 v2 w' => Num w' v1 (n / m) ∧ Num w' v2 (n % m) ∧ Below w.heap.size w w') := by
  rcases Nat.lt_or_ge n m with hlt | hlt
  · exact divide_less v u n m hlt w h g
  · rcases Nat.lt_or_ge n (wB * wB) with hs | hs
    · exact divide_small v u n m hlt hm hs w h g
    · rcases Nat.lt_or_ge m wB with h1 | h1
      · exact divide_word v u n m hlt hm h1 hs w h g (by omega)
      · refine divide_long v u n m hlt ?_ hs w h g hf
        rcases Nat.lt_or_ge (wds m).length 2 with h2 | h2
        · exfalso
          have h3 := lt_wds_pow m
          have h4 : wB ^ (wds m).length ≤ wB ^ 1 := Nat.pow_le_pow_right wB_pos (by omega)
          rw [Nat.pow_one] at h4
          omega
        · exact h2
end Go.Proofs.YtbnbaokamccmjaaGreatDoor
