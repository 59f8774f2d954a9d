/- natural.text: the decimal text of a number. -/
import Derived.Shelf.Strings.BuilderCap
import Derived.Test.YtbnbaokamccmjaaGreatDoorMa7
set_option linter.unusedVariables false
set_option linter.unusedSimpArgs false
namespace Go.Proofs.YtbnbaokamccmjaaGreatDoor
open Go Go.RowKit Go.Shelf

attribute [local go_sem] Oper.semAt_some

/-- WriteString, saying too that whatever is no cells lies as it lay. -/
theorem writeString_kept (B b : Nat) (bs : List Value) (s : ByteArray) (w : World) (h : Lib.IsBuilderF 244 5 B b bs w) (hlen : bs.length + s.size ≤ 140737488355328) (hBw : B ≤ w.heap.size) :
    Calls Tryz.prog 214 #[.pointer (some ⟨b, 0, none⟩), .string s] w fun e w' => e = .returned (.tuple #[.int .i64 s.size, .nilIface]) ∧ (Lib.IsBuilderF 244 5 B b (bs ++ Lib.strCells s) w' ∧ Below B w w' ∧ Lib.OthersKept 5 (some b) w w') :=
  (Any.Builder_WriteString_kc { Tryz.lays105 with } Tryz.Builder_Extra_105 B b bs s w h hlen hBw).mono fun e w' ⟨he, ⟨h1, h2, h3⟩, _⟩ => ⟨he, .inr h1, h2, h3⟩

theorem isBuilderF_grown {T e : TypeId} {B b : Nat} {bs : List Value} {W W' : World} {row : Option Nat} (h : Lib.IsBuilderF T e B b bs W) (hg : W.grownBy W' row) (hr : ∀ r, row = some r → ∃ o : Obj, W.heap[r]? = some o ∧ o.isCells = false) : Lib.IsBuilderF T e B b bs W' := by
  have key : ∀ p, Lib.BuilderAtF T e B b p bs W → Lib.BuilderAtF T e B b p bs W' := by
    rintro p ⟨h1, v, h2, h3, h4⟩
    have hne : ∀ k c t f, W.heap[k]? = some (.cells c t f) → some k ≠ row := fun k c t f hk e => by
      obtain ⟨o, ho, hc⟩ := hr k e.symm
      rw [hk] at ho
      cases ho
      cases hc
    refine ⟨h1, v, ?_, h3.kept hg ?_, h4⟩
    · rw [hg.block b (Array.getElem?_eq_some_iff.1 h2).1 (hne _ _ _ _ h2)]
      exact h2
    · rcases h3.2 with ⟨rfl, _⟩ | ⟨g, cap, cur, fz, rfl, _, hgg, _⟩
      · exact .inl rfl
      · exact .inr (hne _ _ _ _ hgg)
  exact h.elim (fun x => .inl (key _ x)) (fun x => .inr (key _ x))

/-- What a body's step keeps: what lies below the builder; and, beyond it, whatever is no row of bytes. -/
def Stp (b : Nat) (W W' : World) : Prop := Below b W W' ∧ ∀ k o, b < k → W.heap[k]? = some o → (∀ c fz, o ≠ .cells c 5 fz) → W'.heap[k]? = some o
theorem Stp.trans {b : Nat} {A B C : World} (h : Stp b A B) (k : Stp b B C) : Stp b A C := ⟨h.1.trans k.1, fun i o hi ho hc => k.2 i o hi (h.2 i o hi ho hc) hc⟩
theorem Stp.call {b : Nat} {A B : World} (h : Below A.heap.size A B) (hb : b ≤ A.heap.size) : Stp b A B := ⟨h.mono hb, fun i o _ ho _ => (h.block i (Array.getElem?_eq_some_iff.1 ho).1).trans ho⟩
theorem Stp.write {b : Nat} {A B : World} (h : Below b A B) (k : Lib.OthersKept 5 (some b) A B) : Stp b A B := ⟨h, fun i o hi ho hc => k i o ho (by simp; omega) hc⟩
theorem Stp.keeps {b D : Nat} {A B : World} (h : Stp b A B) (hD : b < D) : KeepsFrom D A B := ⟨h.1.size, fun k o hk ho hc => h.2 k o (by omega) ho (fun c fz e => by rw [e] at hc; cases hc)⟩
theorem Stp.kb {b : Nat} {A B : World} (h : Stp b A B) : Kb b (b + 1) A B := ⟨h.1, fun c hc => h.2 _ _ (by omega) hc (fun c' fz e => by injection e with e1 e2 e3; exact absurd e2 (by decide))⟩

theorem dec_len9 {x : Nat} (h : x < wB) : (dec x).size ≤ 9 := by
  have e := padk_eq 9 x (by omega) (by rw [← wB_pow]; exact h)
  have e2 := padk_length 9 x
  rw [e, List.length_append, List.length_replicate] at e2
  rw [← toList_length, dec_toList]
  omega
theorem chunk_eq {l : List Nat} (ho : Okw l) (x : Nat) : chunk l x = if x + 1 < l.length then List.replicate (9 - (dec (wd l x)).size) 48 ++ (dec (wd l x)).data.toList else (dec (wd l x)).data.toList := by
  unfold chunk
  have e := padk_eq 9 (wd l x) (by omega) (by rw [← wB_pow]; exact ho.wd x)
  rw [← toList_length, dec_toList, ← e]
theorem chunk_length {l : List Nat} (ho : Okw l) (x : Nat) : (chunk l x).length ≤ 9 := by
  unfold chunk
  split
  · exact Nat.le_of_eq (padk_length _ _)
  · have := dec_len9 (ho.wd x)
    rw [← toList_length, dec_toList] at this
    exact this
theorem txs_length {l : List Nat} (ho : Okw l) : ∀ pre : List Nat, (txs l pre).length ≤ 9 * pre.length
  | [] => by simp [txs]
  | x :: pre => by
    have := txs_length ho pre
    have h2 := chunk_length ho x
    have e : txs l (x :: pre) = chunk l x ++ txs l pre := by simp [txs]
    rw [e, List.length_append, List.length_cons]
    omega
theorem zeros (c : Nat) : Lib.repeatL [48] c = List.replicate c 48 := by
  have := Lib.repeatL_replicate 48 1 c
  rw [Nat.mul_one] at this
  exact this

set_option maxRecDepth 100000 in
set_option maxHeartbeats 2000000 in
theorem text_walk (v : Value) (m : Nat) (w : World) (h : Num w v m) (hB : Bw w) (hl : (wds m).length ≤ 100000000) :
    Calls Tryz.prog 193 #[v] w fun e w' => e = .returned (.string (dec m)) ∧ Below w.heap.size w w' := by
  obtain ⟨A, cap, rfl, hn, hc, hcell⟩ := h.open
  by_cases h0 : (wds m).length = 0
  · have e0 : m = 0 := by rw [← wds_eq_nil]; exact List.length_eq_zero_iff.1 h0
    subst e0
    rw [wds_zero] at *
    rw [dec_zero]
    go_enter Tryz.func193, Tryz.ntmps193
    go_wp2
    go_ret
    exact ⟨rfl, (Below.refl _ _).alloc (Nat.le_refl _) _⟩
  · obtain ⟨b, off, rfl, hcs⟩ := hcell (by omega)
    have hb : b < w.heap.size := World.block_lt_of_cell? w ⟨b, off + 0, none⟩ (hcs 0 (by omega))
    clear hcell
    refine (callsIn_wide (n := 5)).1 ?_
    refine callsIn_of_wp_marks Tryz.func193 rfl trivial ?_ rfl
    simp only [Tryz.ntmps193, List.size_toArray, List.length_cons, List.length_nil, Nat.reduceAdd, Nat.reduceSub, Array.replicate_succ, Array.replicate_zero, List.push_toArray, List.append_toArray, List.nil_append, List.cons_append]
    have hz : (((wds m).length : Int) == 0) = false := beq_eq_false_iff_ne.2 (by omega)
    gi_wp2_with (refine ⟨trivial, ?_⟩; gi_at_call 212; refine (back_in Fence.wide _ trivial rfl _ _ _ _).mono ?_; rintro e w' ⟨rfl, rfl⟩)
    have hB0 : Below w.heap.size w (((w.alloc (.cells #[.slice (some ⟨b, off, none⟩) (wds m).length cap] 212)).alloc (.cells #[.pointer none, .slice none 0 0] 244)).alloc (.cells #[.slice (some ⟨b, off, none⟩) (wds m).length cap] 212)) := (((Below.refl _ w).alloc (Nat.le_refl _) _).alloc (by simp) _).alloc (by simp; omega) _
    have hcs1 : ∀ j, j < (wds m).length → _ := fun j hj => (hB0.cell (p := ⟨b, off + j, none⟩) hb).trans (hcs j hj)
    have hn1 := (((Boxed.new w 212 (.slice (some ⟨b, off, none⟩) (wds m).length cap)).alloc (.cells #[.pointer none, .slice none 0 0] 244)).alloc (.cells #[.slice (some ⟨b, off, none⟩) (wds m).length cap] 212)).cell
    have hbk : (((w.alloc (.cells #[.slice (some ⟨b, off, none⟩) (wds m).length cap] 212)).alloc (.cells #[.pointer none, .slice none 0 0] 244)).alloc (.cells #[.slice (some ⟨b, off, none⟩) (wds m).length cap] 212)).heap[w.heap.size + 1 + 1]? = some (.cells #[.slice (some ⟨b, off, none⟩) (wds m).length cap] 212 (0, 0)) := by
      have := heap_new ((w.alloc (.cells #[.slice (some ⟨b, off, none⟩) (wds m).length cap] 212)).alloc (.cells #[.pointer none, .slice none 0 0] 244)) (.cells #[.slice (some ⟨b, off, none⟩) (wds m).length cap] 212)
      rw [World.size_alloc, World.size_alloc] at this
      exact this
    have hbu : Lib.IsBuilderF 244 5 (w.heap.size + 1) (w.heap.size + 1) [] (((w.alloc (.cells #[.slice (some ⟨b, off, none⟩) (wds m).length cap] 212)).alloc (.cells #[.pointer none, .slice none 0 0] 244)).alloc (.cells #[.slice (some ⟨b, off, none⟩) (wds m).length cap] 212)) := by
      have h1 := heap_new (w.alloc (.cells #[.slice (some ⟨b, off, none⟩) (wds m).length cap] 212)) (.cells #[.pointer none, .slice none 0 0] 244)
      rw [World.size_alloc] at h1
      have h2 := ((Below.refl _ ((w.alloc (.cells #[.slice (some ⟨b, off, none⟩) (wds m).length cap] 212)).alloc (.cells #[.pointer none, .slice none 0 0] 244))).alloc (Nat.le_refl _) (.cells #[.slice (some ⟨b, off, none⟩) (wds m).length cap] 212)).block (w.heap.size + 1) (by simp)
      exact .inl ⟨Nat.le_refl _, .slice none 0 0, h2.trans h1, World.ownsRowF_nil _ _ _ _, by simp [Value.ownBlock]⟩
    have hsz : (((w.alloc (.cells #[.slice (some ⟨b, off, none⟩) (wds m).length cap] 212)).alloc (.cells #[.pointer none, .slice none 0 0] 244)).alloc (.cells #[.slice (some ⟨b, off, none⟩) (wds m).length cap] 212)).heap.size = w.heap.size + 1 + 1 + 1 := by simp
    generalize hW1 : (((w.alloc (.cells #[.slice (some ⟨b, off, none⟩) (wds m).length cap] 212)).alloc (.cells #[.pointer none, .slice none 0 0] 244)).alloc (.cells #[.slice (some ⟨b, off, none⟩) (wds m).length cap] 212)) = W1 at *
    refine wpIn_rangeFunc_ownG rfl (by omega) (gf := 229) (lb := #[.pointer (some ⟨w.heap.size + 1 + 1, 0, none⟩)]) rfl trivial (enters_of Tryz.func229 (by kernel_rfl) rfl)
      (back_stops Fence.wide _ trivial rfl (by omega) (w.heap.size + 1 + 1) (w.heap.size + 1) b off cap (wds m) (by omega) W1 (by omega) (by omega) (by omega) hbk hcs1) Kb.trans (Kb.put (by omega) (by omega)) (Below.refl _ _) (fun _ => rfl)
      (fun pre W => Lib.IsBuilderF 244 5 (w.heap.size + 1) (w.heap.size + 1) (Lib.byteCells (txs (wds m) pre)) W ∧ Below (w.heap.size + 1) W1 W)
      (fun _ _ _ => False)
      (OwnFrom.and (fun s A B row hs hg hr => isBuilderF_grown hs hg (fun r e => (hr r e).2)) (ownFrom_below (by omega) (by omega)))
      (fun _ _ _ _ _ hs _ _ => hs)
      ⟨hbu, Below.refl _ _⟩
      (fun x => { tmps := #[.slice (some ⟨b, off, none⟩) (wds m).length cap, .pointer (some ⟨w.heap.size, 0, none⟩), .string ⟨#[]⟩, .pointer (some ⟨w.heap.size + 1, 0, none⟩), .int .i64 (x : Int), .int .u32 (wd (wds m) x : Int), undef, .slice (some ⟨b, off, none⟩) (wds m).length cap, .int .i64 ((wds m).length : Int), .bool false, .slice (some ⟨b, off, none⟩) (wds m).length cap, .func (.func 229) #[] #[.pointer (some ⟨w.heap.size + 1 + 1, 0, none⟩)], .int .i64 (x : Int), .int .u32 (wd (wds m) x : Int), undef, undef, undef, undef, undef, undef, undef, undef, undef, undef, undef, undef, undef, undef, undef, undef], defers := [] }) ?assign ?body ?done ?stop
    case assign =>
      intro l x W K hK
      gi_wp2
      exact hK
    case body =>
      rintro l pre x W ⟨hbu, hBl⟩ hlen
      have hnW := (hBl.cell (p := ⟨w.heap.size, 0, none⟩) (by simp)).trans hn1
      have hBW := hB0.trans (hBl.mono (by omega))
      have hbw := hB.below hBW
      have hwx : (wd (wds m) x : Int) ≤ 999999999 := by have := (okw_wds m).wd x; rw [wB_eq] at this; omega
      have hwn : wd (wds m) x ≤ 999999999 := by omega
      have HWN := Lib.hid hwn
      clear hwn hn1 hbk hcs1 hcs
      have HSZ := Lib.hid hsz
      clear hsz
      have hd9 : (dec (wd (wds m) x)).size ≤ 9 := dec_len9 ((okw_wds m).wd x)
      have hck : chunk (wds m) x = if x + 1 < (wds m).length then List.replicate (9 - (dec (wd (wds m) x)).size) 48 ++ (dec (wd (wds m) x)).data.toList else (dec (wd (wds m) x)).data.toList := chunk_eq (okw_wds m) x
      have hfm := formatUint_walk _ HWN.out W hbw
      generalize hdd : dec (wd (wds m) x) = d at *
      by_cases hx : x + 1 < (wds m).length
      · have hxi : (x : Int) < ((wds m).length : Int) - 1 := by omega
        obtain ⟨c, hc9⟩ : ∃ c : Nat, (9 : Int) - (d.size : Int) = c := ⟨9 - d.size, by omega⟩
        have hc10 : c ≤ 1000000 := by omega
        have HC := Lib.hid hc10
        gi_wp2_with (refine ⟨trivial, ?_⟩; first
          | (gi_at_call 213; refine (CallsIn.inRound l (callsIn_wide.2 hfm)).mono ?_; rintro e w2 ⟨rfl, g2⟩; have hn2 := cell_below g2 hnW; have hbu2 := isBuilderF_grown hbu ⟨g2.os, g2.tape, g2.output, g2.size, fun k hk _ => g2.block k hk⟩ (row := none) (fun _ e => by cases e))
          | (gi_at_call 215; refine (CallsIn.inRound l (callsIn_wide.2 (repeat_walk ⟨#[48]⟩ c _ HC.out (by decide)))).mono ?_; rintro e w3 ⟨rfl, g3⟩))
        have hbu3 := isBuilderF_grown hbu2 ⟨g3.os, g3.tape, g3.output, g3.size, fun k hk _ => g3.block k hk⟩ (row := none) (fun _ e => by cases e)
        have htl : (txs (wds m) pre).length ≤ 9000000000 := by have := txs_length (okw_wds m) pre; omega
        have h3s : w.heap.size + 1 ≤ w3.heap.size := by have := g3.size; have := g2.size; have := hBl.size; have := HSZ.out; omega
        refine ⟨trivial, ?_⟩
        refine (CallsIn.inRound l (callsIn_wide.2 (writeString_kept _ _ _ _ w3 hbu3 (by rw [Lib.byteCells_length, ← toList_length]; show _ + (Lib.repeatL [48] c).length ≤ _; rw [zeros, List.length_replicate]; omega) h3s))).mono ?_
        rintro e w4 ⟨rfl, hbu4, g4, k4⟩
        gi_wp2_with (refine ⟨trivial, ?_⟩; gi_at_call 214; refine (CallsIn.inRound l (callsIn_wide.2 (writeString_kept _ _ _ d w4 hbu4 (by rw [List.length_append, Lib.byteCells_length, Lib.strCells_length, ← toList_length]; show _ + (Lib.repeatL [48] c).length + _ ≤ _; rw [zeros, List.length_replicate]; omega) (Nat.le_trans h3s g4.size)))).mono ?_; rintro e w5 ⟨rfl, hbu5, g5, k5⟩)
        have hst : Stp (w.heap.size + 1) W w5 := ((Stp.call g2 (by have := hBl.size; have := HSZ.out; omega)).trans (Stp.call g3 (by have := hBl.size; have := g2.size; have := HSZ.out; omega))).trans ((Stp.write g4 k4).trans (Stp.write g5 k5))
        refine ⟨hst.keeps (by have := HSZ.out; omega), hst.kb, ?_, hBl.trans hst.1⟩
        have e1 : txs (wds m) (pre ++ [x]) = txs (wds m) pre ++ (List.replicate c 48 ++ d.data.toList) := by
          rw [txs_snoc, hck, if_pos hx, show 9 - d.size = c by omega]
        rw [e1, Lib.byteCells_append, Lib.byteCells_append, ← List.append_assoc, ← zeros, ← Lib.strCells_toArray, ← Lib.strCells_eq]
        exact hbu5
      · have hxi : ¬ (x : Int) < ((wds m).length : Int) - 1 := by omega
        gi_wp2_with (refine ⟨trivial, ?_⟩; gi_at_call 213; refine (CallsIn.inRound l (callsIn_wide.2 hfm)).mono ?_; rintro e w2 ⟨rfl, g2⟩; have hn2 := cell_below g2 hnW; have hbu2 := isBuilderF_grown hbu ⟨g2.os, g2.tape, g2.output, g2.size, fun k hk _ => g2.block k hk⟩ (row := none) (fun _ e => by cases e))
        have htl : (txs (wds m) pre).length ≤ 9000000000 := by have := txs_length (okw_wds m) pre; omega
        have h2s : w.heap.size + 1 ≤ w2.heap.size := by have := g2.size; have := hBl.size; have := HSZ.out; omega
        refine ⟨trivial, ?_⟩
        refine (CallsIn.inRound l (callsIn_wide.2 (writeString_kept _ _ _ d w2 hbu2 (by rw [Lib.byteCells_length]; omega) h2s))).mono ?_
        rintro e w5 ⟨rfl, hbu5, g5, k5⟩
        gi_wp2
        have hst : Stp (w.heap.size + 1) W w5 := (Stp.call g2 (by have := hBl.size; have := HSZ.out; omega)).trans (Stp.write g5 k5)
        refine ⟨hst.keeps (by have := HSZ.out; omega), hst.kb, ?_, hBl.trans hst.1⟩
        have e1 : txs (wds m) (pre ++ [x]) = txs (wds m) pre ++ d.data.toList := by
          rw [txs_snoc, hck, if_neg hx]
        rw [e1, Lib.byteCells_append, ← Lib.strCells_eq]
        exact hbu5
    case done =>
      rintro D ys W hD rfl ⟨hbu, hBl⟩ hK
      have htop : wd (wds m) ((wds m).length - 1) ≠ 0 := by
        rcases lnz_wds m with e | e
        · rw [e] at h0; exact absurd rfl h0
        · exact e
      rw [txs_all (okw_wds m) (by omega) htop, val_wds] at hbu
      have hD1 : w.heap.size + 1 < D := by omega
      gi_wp2_with (refine ⟨trivial, ?_⟩; gi_at_call 216; refine (callsIn_wide.2 (Any.Builder_String_any_k Tryz.lays169 Tryz.Builder_Extra_169 _ _ _ _ hbu (by have := hBl.size; omega))).mono ?_; rintro e w6 ⟨rfl, h6, g6, k6⟩)
      have hK6 : w6.heap[D]? = some (.deferred (some [])) := k6 D _ hK (by simp; omega) (fun c fz e => by cases e)
      refine ⟨by simp, .inl ⟨_, _, rfl, run_takeDeferred hK6, ?_⟩⟩
      exact ⟨_, results_tmp rfl _ _ _, rfl, (hB0.trans ((hBl.trans g6).mono (by omega))).trans (belowK_b (w := w) (Nat.le_refl _) w6 D _ _ (by omega) hK6 rfl rfl)⟩
    case stop =>
      rintro D c pre W _ _ h _
      exact h.elim
end Go.Proofs.YtbnbaokamccmjaaGreatDoor
