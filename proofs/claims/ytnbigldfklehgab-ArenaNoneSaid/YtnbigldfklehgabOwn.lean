/- A row of the call's own, read and written at one place. -/
import Derived.Test.YtnbigldfklehgabWords
namespace Go.Proofs.Ytnbigldfklehgab
open Go Go.RowKit

theorem Own.at_ {k : IntKind} {E : TypeId} {w : World} {base : Nat} {v : Value} {xs : List Int} (h : Own k E w base v xs) {i : Nat} (hi : i < xs.length) :
    ∃ g cap, v = .slice (some ⟨g, 0, none⟩) xs.length cap ∧ w.cell? ⟨g, i, none⟩ = some (.int k (wd xs i)) ∧ w.frozen? ⟨g, i, none⟩ = false ∧ base ≤ g ∧ g < w.heap.size ∧
      ∀ x, Own k E (w.setCell ⟨g, i, none⟩ (.int k x)) base v (xs.set i x) := by
  obtain ⟨g, cap, cur, rfl, hb, hg, hn, hc, hs, ht⟩ := h.block (by omega)
  refine ⟨g, cap, rfl, ?_, frozen_of_block hg _, hb, block_lt hg, fun x => h.set_ i x hi⟩
  rw [cell_of_block hg, ← Array.getElem?_toList]
  have e1 : cur.toList[i]? = (xs.map (Value.int k))[i]? := by rw [← ht, List.getElem?_take, if_pos hi]
  rw [e1]
  simp [wd, hi]
end Go.Proofs.Ytnbigldfklehgab
