/- Arrays of numbers. -/
import Derived.Test.YtcheafeaioflmaaDoorWords
namespace Go.Proofs.YtcheafeaioflmaaDoor
open Go Go.RowKit

/-- the numbers in an array -/
def IntArr (T : TypeId) (w : World) (b : Nat) (v : List Int) : Prop := w.heap[b]? = some (.cells (v.map (Value.int .i64)).toArray T)
theorem IntArr.cell {T : TypeId} {w : World} {b : Nat} {v : List Int} (h : IntArr T w b v) {k : Nat} (hk : k < v.length) : w.cell? ⟨b, k, none⟩ = some (.int .i64 (v.getD k 0)) := by
  rw [cell_of_block h k]
  simp [hk]
theorem IntArr.put {T : TypeId} {w : World} {b : Nat} {v : List Int} (h : IntArr T w b v) (k : Nat) (x : Int) : IntArr T (w.setCell ⟨b, k, none⟩ (.int .i64 x)) b (v.set k x) := by
  unfold IntArr at h ⊢
  rw [block_setCell h k _]
  simp
theorem IntArr.lt {T : TypeId} {w : World} {b : Nat} {v : List Int} (h : IntArr T w b v) : b < w.heap.size := block_lt h
theorem IntArr.below {T : TypeId} {w w' : World} {b B : Nat} {v : List Int} (h : IntArr T w b v) (hB : b < B) (hb : Below B w w') : IntArr T w' b v := (hb.block b hB).trans h
theorem IntArr.drew {T : TypeId} {w : World} {b : Nat} {v : List Int} (h : IntArr T w b v) : IntArr T w.drew b v := h
end Go.Proofs.YtcheafeaioflmaaDoor
