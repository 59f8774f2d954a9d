/- The text of a number, as its words give it: plain law for natural.text. -/
import Derived.Test.YtbnbaokamccmjaaGreatDoorNb4
set_option linter.unusedVariables false
set_option linter.unusedSimpArgs false
namespace Go.Proofs.YtbnbaokamccmjaaGreatDoor
open Go Go.RowKit Go.Lib

/-- What text's loop writes at place j. -/
def chunk (l : List Nat) (j : Nat) : List UInt8 := if j + 1 < l.length then padk 9 (wd l j) else decDigits (wd l j)
/-- What it has written behind the places pre. -/
def txs (l : List Nat) (pre : List Nat) : List UInt8 := pre.flatMap (chunk l)
theorem txs_nil (l : List Nat) : txs l [] = [] := rfl
theorem txs_snoc (l pre : List Nat) (x : Nat) : txs l (pre ++ [x]) = txs l pre ++ chunk l x := by simp [txs]
theorem drop_step {l : List Nat} {r : Nat} (h : r < l.length) : l.drop r = wd l r :: l.drop (r + 1) := by
  rw [List.drop_eq_getElem_cons h]
  congr 1
  unfold wd
  rw [List.getD_eq_getElem?_getD, List.getElem?_eq_getElem h]
  rfl
theorem txs_down {l : List Nat} (ho : Okw l) (hz : 0 < l.length) (ht : wd l (l.length - 1) ≠ 0) : ∀ k, k < l.length →
    txs l (downto l.length (k + 1)) = decDigits (val (l.drop (l.length - 1 - k))) ∧ val (l.drop (l.length - 1 - k)) ≠ 0
  | 0, _ => by
    have e : l.drop (l.length - 1 - 0) = [wd l (l.length - 1)] := by
      rw [Nat.sub_zero, drop_step (by omega), show l.length - 1 + 1 = l.length by omega, List.drop_length]
    rw [e]
    have e2 : val [wd l (l.length - 1)] = wd l (l.length - 1) := by simp [val]
    rw [e2, downto_succ, txs_snoc]
    refine ⟨?_, ht⟩
    have : chunk l (l.length - 1 - 0) = decDigits (wd l (l.length - 1)) := by
      unfold chunk
      rw [if_neg (by omega), Nat.sub_zero]
    rw [this]
    simp [downto, txs]
  | k + 1, h => by
    obtain ⟨h1, h2⟩ := txs_down ho hz ht k (by omega)
    have hr : l.length - 1 - (k + 1) < l.length := by omega
    have hs : l.length - 1 - (k + 1) + 1 = l.length - 1 - k := by omega
    have e := drop_step hr
    rw [hs] at e
    rw [e, downto_succ, txs_snoc, h1]
    have hc : chunk l (l.length - 1 - (k + 1)) = padk 9 (wd l (l.length - 1 - (k + 1))) := by
      unfold chunk
      rw [if_pos (by omega)]
    rw [hc]
    generalize l.drop (l.length - 1 - k) = d at *
    have hw := ho.wd (l.length - 1 - (k + 1))
    generalize wd l (l.length - 1 - (k + 1)) = x at *
    have ev : val (x :: d) = val d * 10 ^ 9 + x := by
      rw [← wB_pow]
      show x + wB * val d = _
      rw [Nat.mul_comm, Nat.add_comm]
    rw [ev, decDigits_pad 9 (val d) x h2 (by rw [← wB_pow]; exact hw)]
    refine ⟨rfl, ?_⟩
    have : 0 < val d * 10 ^ 9 := Nat.mul_pos (Nat.pos_of_ne_zero h2) (by decide)
    omega
/-- All the places: the number's digits. -/
theorem txs_all {l : List Nat} (ho : Okw l) (hz : 0 < l.length) (ht : wd l (l.length - 1) ≠ 0) : txs l (downto l.length l.length) = decDigits (val l) := by
  have := (txs_down ho hz ht (l.length - 1) (by omega)).1
  rw [show l.length - 1 + 1 = l.length by omega, Nat.sub_self, List.drop_zero] at this
  exact this
end Go.Proofs.YtbnbaokamccmjaaGreatDoor
