/- The library's functions as the program calls them: FormatUint, FormatInt, ParseUint, ParseInt, a Builder's WriteString; and what is asked of the world: the table of powers of ten, and the one variable of the search. -/
import Derived.Test.YtbnbaokamccmjaaGreatDoorSh
import Derived.Test.YtbnbaokamccmjaaGreatDoorBa2
import Derived.Shelf.Strings.BuilderF
import Derived.Lib.AppendIntMem
set_option linter.unusedVariables false
set_option linter.unusedSimpArgs false
namespace Go.Proofs.YtbnbaokamccmjaaGreatDoor
open Go Go.RowKit Go.Sort

/-- What the library's variables hold. -/
structure Bw (w : World) : Prop where
  tab : Lib.TabIs Tryz.prog w "internal/strconv.uint64pow10" .u64 Lib.pow10Tab
  len : ∃ m, w.cell? ⟨0, 0, none⟩ = some (.int .i64 m)

theorem tabIs_below {P : Program} {w w1 : World} {name : String} {k : IntKind} {zs : List Int} (h : Lib.TabIs P w name k zs) (hb : Below w.heap.size w w1) : Lib.TabIs P w1 name k zs := by
  unfold Lib.TabIs World.var? at *
  cases hg : P.globalNamed name with
  | none => simp [hg] at h
  | some g =>
    simp only [hg, Option.bind_some] at h ⊢
    have hlt : g < w.heap.size := by
      rcases Nat.lt_or_ge g w.heap.size with hl | hl
      · exact hl
      · simp [Array.getElem?_eq_none hl] at h
    rw [hb.block g hlt]
    exact h
theorem Bw.below {w w1 : World} (h : Bw w) (hb : Below w.heap.size w w1) : Bw w1 := by
  obtain ⟨m, hm⟩ := h.len
  exact ⟨tabIs_below h.tab hb, m, cell_below hb hm⟩

theorem below_grow (w : World) (k : Nat) (os : Array Obj) : Below w.heap.size w (grow (w.drewN k) os) := by
  refine ⟨rfl, rfl, rfl, by simp [grow], fun i hi => ?_⟩
  simp [grow, Array.getElem?_append_left hi]
theorem below_bytesWorld (w : World) (e : TypeId) (s : ByteArray) : Below w.heap.size w (Lib.bytesWorld w e s) := Lib.bytesWorld_below _ _ _

set_option maxHeartbeats 400000 in
theorem formatInt_walk (n : Int) (h0 : -9223372036854775808 ≤ n) (h1 : n ≤ 9223372036854775807) (w : World) (hB : Bw w) :
    Calls Tryz.prog 221 #[.int .i64 n, .int .i64 10] w fun e w' => e = .returned (.string ⟨(Lib.itoa n).toArray⟩) ∧ Below w.heap.size w w' :=
  (Tryz.strconv_FormatInt_10 n h0 h1 w hB.tab).mono fun e w' ⟨he, k, os, hw⟩ => ⟨he, by rw [hw]; exact below_grow w k os⟩

theorem parseUint_walk (s : ByteArray) (hmax : s.size ≤ 9223372036854775806) (u : Nat) (h : Lib.parseUintB 32 s.data.toList = .ok u) (w : World) :
    Calls Tryz.prog 211 #[.string s, .int .i64 10, .int .i64 32] w fun e w' => e = .returned (.tuple #[.int .u64 u, .nilIface]) ∧ Below w.heap.size w w' :=
  (Tryz.strconv_ParseUint_10_at32_ok s hmax u h w).mono fun e w' ⟨he, hw⟩ => ⟨he, by rcases hw with rfl | rfl <;> first | exact Below.refl _ _ | exact below_bytesWorld _ _ _⟩
theorem parseInt_walk (s : ByteArray) (hmax : s.size ≤ 9223372036854775806) (v : Int) (h : Lib.parseIntB 64 s.data.toList = .ok v) (w : World) :
    Calls Tryz.prog 220 #[.string s, .int .i64 10, .int .i64 64] w fun e w' => e = .returned (.tuple #[.int .i64 v, .nilIface]) ∧ Below w.heap.size w w' :=
  (Tryz.strconv_ParseInt_10_at64_ok s hmax v h w).mono fun e w' ⟨he, hw⟩ => ⟨he, by rcases hw with rfl | ⟨t, rfl⟩ <;> first | exact Below.refl _ _ | exact below_bytesWorld _ _ _⟩

theorem repeat_walk (s : ByteArray) (c : Nat) (w : World) (hc : c ≤ 1000000) (hlen : s.size ≤ 1000000) :
    Calls Tryz.prog 215 #[.string s, .int .i64 c] w fun e w' => e = .returned (.string ⟨(Lib.repeatL s.data.toList c).toArray⟩) ∧ Below w.heap.size w w' :=
  Tryz.strings_Repeat s c w (by omega) (by
    have : s.size * c ≤ 1000000 * 1000000 := Nat.mul_le_mul hlen hc
    omega)

theorem writeString_walk (B b : Nat) (bs : List Value) (s : ByteArray) (w : World) (h : Lib.IsBuilderF 244 5 B b bs w) (hlen : bs.length + s.size ≤ 140737488355328) (hBw : B ≤ w.heap.size) :
    Calls Tryz.prog 214 #[.pointer (some ⟨b, 0, none⟩), .string s] w fun e w' => e = .returned (.tuple #[.int .i64 s.size, .nilIface]) ∧ (Lib.BuilderAtF 244 5 B b (.pointer (some ⟨b, 0, none⟩)) (bs ++ Lib.strCells s) w' ∧ Below B w w') :=
  Any.Builder_WriteString_f { Tryz.lays105 with } Tryz.Builder_Extra_105 B b bs s w h hlen hBw

set_option maxRecDepth 100000 in
set_option maxHeartbeats 2000000 in
theorem formatUint_inner (u : Nat) (hu64 : u ≤ 999999999) (w : World) (hB : Bw w) :
    Calls Tryz.prog 230 #[.int .u64 u, .int .i64 10] w fun e w' => e = .returned (.string (dec u)) ∧ Below w.heap.size w w' := by
  have huI : (u : Int) ≤ 999999999 := by omega
  by_cases hs : u < 100
  · have hsI : (u : Int) < 100 := by omega
    go_enter Tryz.func230, Tryz.ntmps230
    go_wp2_with (go_at_call 247; refine (Tryz.internal_strconv_small u hs _).mono ?_; rintro e w' ⟨rfl, rfl⟩)
    go_ret
    exact ⟨rfl, Below.refl _ _⟩
  · have hsI : ¬ (u : Int) < 100 := by omega
    have hu1 : 1 ≤ u := by omega
    have hnd20 : Lib.nDigits u ≤ 20 := by have := Lib.numDigits_eq u hu1 (by omega); split at this <;> omega
    have hal : Tryz.prog.arrayLen 279 = 24 := by simp [Program.arrayLen, Tryz.underlying279]
    have hsl : ∀ W, (Instr.sliceAt 279 (.pointer (some ⟨w.heap.size, 0, none⟩)) none (some (.int .i64 (Lib.nDigits u : Int))) none).run Tryz.prog W = .ok (.slice (some ⟨w.heap.size, 0, none⟩) (Lib.nDigits u) 24) W := fun W => by
      rw [run_sliceAt_array_h W 279 ⟨w.heap.size, 0, none⟩ (by simp [Program.arrayLen, Program.elem, Tryz.underlying279]) .i64 (Lib.nDigits u : Int) (by omega) (by rw [hal]; omega)]
      go_simp
    have hH0 := Lib.holds_zero0 w 279 (Lib.nDigits u) (by omega)
    have hfmt := Tryz.internal_strconv_formatBase10 w.heap.size 0 24 u (Array.replicate (Lib.nDigits u) 0) (w.alloc (.cells Lib.zeros24 279)) hH0 (by rw [Array.size_replicate]; exact Lib.lt_pow_nDigits u) (by omega) (by rw [Array.size_replicate]; omega)
    rw [Array.size_replicate] at hfmt
    have HH0 := Lib.hid hH0
    have HF := Lib.hid hfmt
    clear hH0 hal hfmt
    go_enter Tryz.func230, Tryz.ntmps230
    go_wp2_with (first
      | (go_at_call 248; refine (Tryz.internal_strconv_numDigits u hu1 (by omega) _ (Lib.tabIs_alloc hB.tab _)).mono ?_; rintro e w' ⟨rfl, rfl⟩))
    go_at_call 249
    refine HF.out.mono ?_
    rintro e w' ⟨rfl, k, v', dk, rfl, hF⟩
    have hcv : (convert 187 9 (.slice (some ⟨w.heap.size, 0, none⟩) (Lib.nDigits u) 24)).run Tryz.prog ((putRow (fun (b : UInt8) => Value.int .u8 (b.toNat : Int)) (w.alloc (.cells Lib.zeros24 279)) w.heap.size 0 dk).drewN k) = .ok (.string ⟨(Lib.decDigits u).toArray⟩) ((putRow (fun (b : UInt8) => Value.int .u8 (b.toNat : Int)) (w.alloc (.cells Lib.zeros24 279)) w.heap.size 0 dk).drewN k) := by
      have h := run_convert_bytes_back (P := Tryz.prog) ((putRow (fun (b : UInt8) => Value.int .u8 (b.toNat : Int)) (w.alloc (.cells Lib.zeros24 279)) w.heap.size 0 dk).drewN k) 187 9 5 ⟨w.heap.size, 0, none⟩ 24 (Lib.decDigits u) Tryz.underlying187 Tryz.underlying5 Tryz.underlying9 (fun j hj => by
        rw [Lib.row_is_numeral hF j hj, Lib.add_plain, World.cell?_drewN]
        have hc := cell?_putRow (fun (b : UInt8) => Value.int .u8 (b.toNat : Int)) _ w.heap.size 0 _ dk HH0.out (by rw [hF.size, Array.size_replicate]) j (by rw [hF.size]; rw [Lib.decDigits_length] at hj; exact hj)
        exact hc)
      rw [Lib.decDigits_length] at h
      exact h
    go_wp2
    go_ret
    obtain ⟨os, eo⟩ := Lib.fin_at w (.cells Lib.zeros24 279) dk k 0
    refine ⟨rfl, ?_⟩
    rw [eo]
    exact below_grow w k os

set_option maxHeartbeats 400000 in
theorem formatUint_walk (u : Nat) (hu64 : u ≤ 999999999) (w : World) (hB : Bw w) :
    Calls Tryz.prog 213 #[.int .u64 u, .int .i64 10] w fun e w' => e = .returned (.string (dec u)) ∧ Below w.heap.size w w' := by
  go_enter Tryz.func213, Tryz.ntmps213
  go_wp2_with fail
  refine (formatUint_inner u hu64 w hB).mono ?_
  rintro e w1 ⟨rfl, hb⟩
  go_wp2
  go_ret
  exact ⟨rfl, hb⟩
end Go.Proofs.YtbnbaokamccmjaaGreatDoor
