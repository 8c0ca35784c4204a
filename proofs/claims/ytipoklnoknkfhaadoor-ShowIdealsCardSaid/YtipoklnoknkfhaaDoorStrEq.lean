/- Tests of texts. -/
import Derived.Test.YtipoklnoknkfhaaDoorWordAll
namespace Go.Proofs.YtipoklnoknkfhaaDoor
open Go Go.RowKit

theorem strT {a b : ByteArray} (h : a = b) : (a.toList == b.toList) = true := by rw [h]; simp
theorem strF {a b : ByteArray} (h : ¬ a = b) : (a.toList == b.toList) = false := by
  rw [beq_eq_false_iff_ne]
  intro e
  exact h (bytes_ext (by rw [← Go.ByteArray.toList_eq, ← Go.ByteArray.toList_eq]; exact e))
theorem empT {a : ByteArray} (h : a = ⟨#[]⟩) : a.toList.isEmpty = true := by rw [h, Go.ByteArray.toList_eq]; rfl
theorem empF {a : ByteArray} (h : ¬ a = ⟨#[]⟩) : a.toList.isEmpty = false := by
  cases e : a.toList with
  | nil => exact absurd (bytes_ext (by rw [← Go.ByteArray.toList_eq, e])) h
  | cons x r => rfl
theorem strD (a b : ByteArray) : (a.toList == b.toList) = decide (a = b) := by
  by_cases h : a = b
  · rw [strT h, decide_eq_true h]
  · rw [strF h, decide_eq_false h]
end Go.Proofs.YtipoklnoknkfhaaDoor
