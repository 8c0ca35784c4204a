/- The reference's reading of a configuration, step by step. -/
import Derived.Test.YtcheafeaioflmaaDoorCfgText
namespace Go.Proofs.YtcheafeaioflmaaDoor
open Go Go.RowKit
set_option linter.unusedVariables false

theorem skipW_step (L : List UInt8) (k : Nat) (h : k < L.length) (hn : L[k] ≠ 32) : skipW (L.drop (k + 1)) = skipW (L.drop k) := by
  rw [List.drop_eq_getElem_cons h]
  unfold skipW
  rw [List.dropWhile_cons_of_pos (p := fun x : UInt8 => x != 32) (by simpa using hn)]
theorem skipW_stop (L : List UInt8) (k : Nat) (h : k < L.length) (hn : L[k] = 32) : skipW (L.drop k) = L.drop k := by
  rw [List.drop_eq_getElem_cons h]
  unfold skipW
  rw [List.dropWhile_cons_of_neg (p := fun x : UInt8 => x != 32) (by simp [hn])]
theorem skipW_end (L : List UInt8) (k : Nat) (h : L.length ≤ k) : skipW (L.drop k) = L.drop k := by
  rw [List.drop_eq_nil_of_le h]
  rfl
def numStep (acc : Int) (x : UInt8) : Int := IntKind.i64.wrap (IntKind.i64.wrap (IntKind.i64.wrap (10 * acc) + x.toNat) - 48)
theorem numW_step (L : List UInt8) (k : Nat) (acc : Int) (h : k < L.length) (hn : L[k] ≠ 32) (ha : acc < 10000) : numW (numStep acc L[k]) (L.drop (k + 1)) = numW acc (L.drop k) := by
  rw [List.drop_eq_getElem_cons h]
  conv => rhs; unfold numW
  rw [if_pos ⟨hn, ha⟩]
  rfl
theorem numW_stop (L : List UInt8) (k : Nat) (acc : Int) (h : k < L.length) (hn : L[k] = 32 ∨ ¬ acc < 10000) : numW acc (L.drop k) = (acc, L.drop k) := by
  rw [List.drop_eq_getElem_cons h]
  unfold numW
  rw [if_neg (by rintro ⟨h1, h2⟩; rcases hn with hn | hn; exact h1 hn; exact hn h2)]
theorem numW_end (L : List UInt8) (k : Nat) (acc : Int) (h : L.length ≤ k) : numW acc (L.drop k) = (acc, L.drop k) := by
  rw [List.drop_eq_nil_of_le h]
  unfold numW
  rfl
theorem tail_drop (L : List UInt8) (k : Nat) : (L.drop k).tail = L.drop (k + 1) := by simp
/-- the four numbers behind k rounds -/
def nums3 (L : List UInt8) (k : Nat) : List Int := (List.range 4).map fun j => if j < k then rnum L j else 0
theorem nums3_len (L : List UInt8) (k : Nat) : (nums3 L k).length = 4 := by simp [nums3]
theorem nums3_at (L : List UInt8) (k : Nat) (h : k < 4) : (nums3 L k)[k]? = some 0 := by
  simp [nums3, h]
theorem nums3_set (L : List UInt8) (k : Nat) (h : k < 4) : (nums3 L k).set k (rnum L k) = nums3 L (k + 1) := by
  apply List.ext_getElem?
  intro j
  by_cases hj : j < 4
  · rw [List.getElem?_set]
    by_cases hk : k = j
    · subst hk
      simp [nums3, hj]
    · rw [if_neg hk]
      simp only [nums3, List.getElem?_map, List.getElem?_range hj, Option.map_some]
      congr 1
      by_cases h1 : j < k
      · rw [if_pos h1, if_pos (by omega)]
      · rw [if_neg h1, if_neg (by omega)]
  · rw [List.getElem?_eq_none (by simp [nums3]; omega), List.getElem?_eq_none (by simp [nums3]; omega)]
theorem nums3_end (L : List UInt8) : nums3 L 4 = [rnum L 0, rnum L 1, rnum L 2, rnum L 3] := rfl
theorem rnds_succ (L : List UInt8) (k : Nat) : rnds L (k + 1) = (numW 0 (skipW (rnds L k)).tail).2.tail := rfl
theorem rnum_def (L : List UInt8) (k : Nat) : rnum L k = (numW 0 (skipW (rnds L k)).tail).1 := rfl
theorem rnd_done {L : List UInt8} {k c : Nat} {acc : Int} (h : numW acc (L.drop c) = numW 0 (skipW (rnds L k)).tail) (hs : numW acc (L.drop c) = (acc, L.drop c)) : rnum L k = acc ∧ L.drop (c + 1) = rnds L (k + 1) := by
  rw [rnum_def, rnds_succ, ← h, hs]
  exact ⟨rfl, (tail_drop L c).symm⟩
theorem nums3_zero (L : List UInt8) (k : Nat) : (nums3 L k).set k 0 = nums3 L k := by
  apply List.ext_getElem?
  intro j
  rw [List.getElem?_set]
  by_cases hk : k = j
  · subst hk
    rw [if_pos rfl]
    split
    · rename_i h
      rw [nums3_len] at h
      rw [nums3_at L k h]
    · rename_i h
      rw [List.getElem?_eq_none (by omega)]
  · rw [if_neg hk]
end Go.Proofs.YtcheafeaioflmaaDoor
