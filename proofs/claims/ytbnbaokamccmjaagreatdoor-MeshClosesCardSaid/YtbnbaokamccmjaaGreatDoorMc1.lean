/- Vectors and planes over the rationals, as numbers: their sizes. Plain lemmas: no program. -/
import Derived.Test.YtbnbaokamccmjaaGreatDoorBb2
set_option linter.unusedVariables false
set_option linter.unusedSimpArgs false
namespace Go.Proofs.YtbnbaokamccmjaaGreatDoor
open Go Go.RowKit

/-- A vector. -/
structure V3 where
  x : Rat
  y : Rat
  z : Rat
deriving DecidableEq
namespace V3
def add (a b : V3) : V3 := ⟨a.x + b.x, a.y + b.y, a.z + b.z⟩
def sub (a b : V3) : V3 := ⟨a.x - b.x, a.y - b.y, a.z - b.z⟩
def mulc (a b : V3) : V3 := ⟨a.x * b.x, a.y * b.y, a.z * b.z⟩
def smul (a : V3) (k : Rat) : V3 := ⟨a.x * k, a.y * k, a.z * k⟩
def dot (a b : V3) : Rat := a.x * b.x + a.y * b.y + a.z * b.z
def cross (a b : V3) : V3 := ⟨a.y * b.z - a.z * b.y, a.z * b.x - a.x * b.z, a.x * b.y - a.y * b.x⟩
def zero : V3 := ⟨0, 0, 0⟩
end V3
/-- A plane: the points r with n . r = c. -/
structure Pl where
  n : V3
  c : Rat
deriving DecidableEq
def Pl.height (p : Pl) (a : V3) : Rat := p.n.dot a - p.c

/-- As the program keeps them. -/
def VV (a : V3) : Value := .agg #[.string (rtx a.x), .string (rtx a.y), .string (rtx a.z)]
theorem VV_eq (a : V3) : VV a = .agg #[.string (rtx a.x), .string (rtx a.y), .string (rtx a.z)] := rfl
def PV (p : Pl) : Value := .agg #[.string (rtx p.n.x), .string (rtx p.n.y), .string (rtx p.n.z), .string (rtx p.c)]
theorem PV_eq (p : Pl) : PV p = .agg #[.string (rtx p.n.x), .string (rtx p.n.y), .string (rtx p.n.z), .string (rtx p.c)] := rfl

/-- No coordinate is larger. -/
def V3.le (a : V3) (k : Nat) : Prop := rz a.x ≤ k ∧ rz a.y ≤ k ∧ rz a.z ≤ k
theorem V3.le.mono {a : V3} {k m : Nat} (h : a.le k) (hm : k ≤ m) : a.le m := ⟨Nat.le_trans h.1 hm, Nat.le_trans h.2.1 hm, Nat.le_trans h.2.2 hm⟩
theorem rz_add_le {x y : Rat} {a b c : Nat} (hx : rz x ≤ a) (hy : rz y ≤ b) (h : a + b + 1 ≤ c) : rz (x + y) ≤ c := by
  have := rz_add x y
  omega
theorem rz_sub_le {x y : Rat} {a b c : Nat} (hx : rz x ≤ a) (hy : rz y ≤ b) (h : a + b + 1 ≤ c) : rz (x - y) ≤ c := by
  have := rz_sub x y
  omega
theorem rz_mul_le {x y : Rat} {a b c : Nat} (hx : rz x ≤ a) (hy : rz y ≤ b) (h : a + b ≤ c) : rz (x * y) ≤ c := by
  have := rz_mul x y
  omega
theorem V3.le_add {a b : V3} {k m n : Nat} (ha : a.le k) (hb : b.le m) (h : k + m + 1 ≤ n) : (a.add b).le n :=
  ⟨rz_add_le ha.1 hb.1 h, rz_add_le ha.2.1 hb.2.1 h, rz_add_le ha.2.2 hb.2.2 h⟩
theorem V3.le_sub {a b : V3} {k m n : Nat} (ha : a.le k) (hb : b.le m) (h : k + m + 1 ≤ n) : (a.sub b).le n :=
  ⟨rz_sub_le ha.1 hb.1 h, rz_sub_le ha.2.1 hb.2.1 h, rz_sub_le ha.2.2 hb.2.2 h⟩
theorem V3.le_mulc {a b : V3} {k m n : Nat} (ha : a.le k) (hb : b.le m) (h : k + m ≤ n) : (a.mulc b).le n :=
  ⟨rz_mul_le ha.1 hb.1 h, rz_mul_le ha.2.1 hb.2.1 h, rz_mul_le ha.2.2 hb.2.2 h⟩
theorem V3.le_smul {a : V3} {q : Rat} {k m n : Nat} (ha : a.le k) (hb : rz q ≤ m) (h : k + m ≤ n) : (a.smul q).le n :=
  ⟨rz_mul_le ha.1 hb h, rz_mul_le ha.2.1 hb h, rz_mul_le ha.2.2 hb h⟩
theorem rz_dot {a b : V3} {k m n : Nat} (ha : a.le k) (hb : b.le m) (h : 3 * (k + m) + 2 ≤ n) : rz (a.dot b) ≤ n :=
  rz_add_le (rz_add_le (rz_mul_le ha.1 hb.1 (Nat.le_refl _)) (rz_mul_le ha.2.1 hb.2.1 (Nat.le_refl _)) (Nat.le_refl _)) (rz_mul_le ha.2.2 hb.2.2 (Nat.le_refl _)) (by omega)
theorem V3.le_cross {a b : V3} {k m n : Nat} (ha : a.le k) (hb : b.le m) (h : 2 * (k + m) + 1 ≤ n) : (a.cross b).le n :=
  ⟨rz_sub_le (rz_mul_le ha.2.1 hb.2.2 (Nat.le_refl _)) (rz_mul_le ha.2.2 hb.2.1 (Nat.le_refl _)) (by omega),
   rz_sub_le (rz_mul_le ha.2.2 hb.1 (Nat.le_refl _)) (rz_mul_le ha.1 hb.2.2 (Nat.le_refl _)) (by omega),
   rz_sub_le (rz_mul_le ha.1 hb.2.1 (Nat.le_refl _)) (rz_mul_le ha.2.1 hb.1 (Nat.le_refl _)) (by omega)⟩
def Pl.le (p : Pl) (k : Nat) : Prop := p.n.le k ∧ rz p.c ≤ k
theorem rz_height {p : Pl} {a : V3} {k m n : Nat} (hp : p.le k) (ha : a.le m) (h : 3 * (k + m) + 3 + k ≤ n) : rz (p.height a) ≤ n :=
  rz_sub_le (rz_dot hp.1 ha (Nat.le_refl _)) hp.2 (by omega)
theorem V3.zero_iff (a : V3) : a = V3.zero ↔ a.x = 0 ∧ a.y = 0 ∧ a.z = 0 := by
  obtain ⟨x, y, z⟩ := a
  simp [V3.zero]
end Go.Proofs.YtbnbaokamccmjaaGreatDoor
