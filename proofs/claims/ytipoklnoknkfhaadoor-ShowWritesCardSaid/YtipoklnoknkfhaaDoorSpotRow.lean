/- A spot's cells, as the list holds them. -/
import Derived.Test.YtipoklnoknkfhaaDoorRef04All
namespace Go.Proofs.YtipoklnoknkfhaaDoor
open Go Go.RowKit

theorem scells_at (c : Cfg) (j d : Nat) (hd : d < 3) : ∀ T : Nat, j < T → (c.scells T)[j * 3 + d]? = (c.spot (j : Int)).cells[d]?
  | 0, h => by omega
  | T + 1, h => by
    rw [Cfg.scells_next]
    by_cases hj : j < T
    · rw [List.getElem?_append_left (by rw [Cfg.scells_len]; omega)]
      exact scells_at c j d hd T hj
    · obtain rfl : j = T := by omega
      rw [List.getElem?_append_right (by rw [Cfg.scells_len]; omega), Cfg.scells_len, Nat.add_sub_cancel_left]
/-- a spot's cells, as the row holds them -/
theorem row_spot {w : World} {B T : Nat} {c : Cfg} {v : Value} (h : w.ownsRow B 45 3 v T (c.scells T)) (hT : 0 < T) :
    ∃ g cap, v = .slice (some ⟨g, 0, none⟩) T cap ∧ g < w.heap.size ∧ B ≤ g ∧ T ≤ cap ∧ ∀ (j : Nat), j < T → w.cell? ⟨g, j * 3, none⟩ = some (.int .i64 (c.spot (j : Int)).kind) ∧ w.cell? ⟨g, j * 3 + 1, none⟩ = some (.int .i64 (c.spot (j : Int)).a) ∧ w.cell? ⟨g, j * 3 + 2, none⟩ = some (.int .i64 (c.spot (j : Int)).b) := by
  obtain ⟨g, cap, cur, hv, hB, hg, hc⟩ := (h.2.resolve_left (fun x => by omega))
  subst hv
  have hx : ∀ i u, (c.scells T)[i]? = some u → w.cell? ⟨g, i, none⟩ = some u := by
    intro i u hu
    have hl := (List.getElem?_eq_some_iff.1 hu).1
    rw [h.cellAt i (by rw [Cfg.scells_len] at hl; exact hl)]
    exact hu
  refine ⟨g, cap, rfl, block_lt hg, hB, hc.1, fun j hj => ⟨hx _ _ ?_, hx _ _ ?_, hx _ _ ?_⟩⟩
  · exact scells_at c j 0 (by omega) T hj
  · exact scells_at c j 1 (by omega) T hj
  · exact scells_at c j 2 (by omega) T hj
end Go.Proofs.YtipoklnoknkfhaaDoor
