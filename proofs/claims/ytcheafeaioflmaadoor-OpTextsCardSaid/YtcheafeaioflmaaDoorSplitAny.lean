/- strings.Split at a space, at any text: the pieces, in a new row. -/
import Derived.Test.YtcheafeaioflmaaDoorSplit
import Derived.Test.YtcheafeaioflmaaDoorJoin
namespace Go.Proofs.YtcheafeaioflmaaDoor
open Go Go.RowKit
set_option linter.unusedVariables false

/-- the library's greatest length is there -/
def MaxL (w : World) : Prop := ∃ m, w.cell? ⟨3, 0, none⟩ = some (.int .i64 m)
theorem MaxL.below {w w' : World} {B : Nat} (h : MaxL w) (hB : w.heap.size ≤ B) (hb : Below B w w') : MaxL w' := by
  obtain ⟨m, c⟩ := h
  have l1 := World.block_lt_of_cell? w _ c
  exact ⟨m, (hb.cell (Nat.lt_of_lt_of_le l1 hB)).trans c⟩
theorem parts_size (l : List UInt8) : ∀ t ∈ parts l, t.length ≤ l.length := by
  induction l with
  | nil => intro t ht; simp [parts] at ht; simp [ht]
  | cons c r ih =>
    intro t ht
    by_cases hc : c = 32
    · subst hc
      rw [parts_sp] at ht
      rcases List.mem_cons.1 ht with rfl | ht
      · simp
      · have := ih t ht; simp; omega
    · rw [parts_cons c r hc] at ht
      cases hp : parts r with
      | nil => rw [hp] at ht; simp at ht; subst ht; simp
      | cons p ps =>
        rw [hp] at ht
        rcases List.mem_cons.1 ht with rfl | ht
        · have := ih p (by rw [hp]; simp); simp; omega
        · have := ih t (by rw [hp]; exact List.mem_cons_of_mem _ ht); simp; omega
theorem pieces_size (s : ByteArray) : ∀ t ∈ pieces s, t.size ≤ s.size := by
  intro t ht
  obtain ⟨l, hl, rfl⟩ := List.mem_map.1 ht
  have := parts_size _ l hl
  have h2 : s.data.toList.length = s.size := Array.length_toList
  show l.toArray.size ≤ _
  rw [List.size_toArray]
  omega
theorem parts_many (l : List UInt8) : (parts l).length ≤ l.length + 1 := by
  induction l with
  | nil => simp [parts]
  | cons c r ih =>
    by_cases hc : c = 32
    · subst hc; rw [parts_sp]; simp; omega
    · rw [parts_cons c r hc]
      cases hp : parts r with
      | nil => simp
      | cons p ps => rw [hp] at ih; simp at ih ⊢; omega
theorem pieces_many (s : ByteArray) : (pieces s).length ≤ s.size + 1 ∧ 1 ≤ (pieces s).length := by
  refine ⟨?_, by rw [(splitB_pieces s).2]; omega⟩
  have := parts_many s.data.toList
  have h2 : s.data.toList.length = s.size := Array.length_toList
  simp [pieces]
  omega
theorem split_any (w : World) (s : ByteArray) (hs : s.size ≤ 1000000) (hm : MaxL w) :
    Calls Tryd.prog 75 #[.string s, .string ⟨#[32]⟩] w fun e w' => ∃ n, e = .returned (.slice (some ⟨w.heap.size, 0, none⟩) n n) ∧ n = (pieces s).length ∧ (∀ j t, (pieces s)[j]? = some t → w'.cell? ⟨w.heap.size, j, none⟩ = some (.string t)) ∧ w.heap.size < w'.heap.size ∧ Below w.heap.size w w' := by
  obtain ⟨m, hm⟩ := hm
  obtain ⟨h1, h2⟩ := splitB_pieces s
  refine (Tryd.strings_Split s ⟨#[32]⟩ m w (by omega) hm (by decide)).mono ?_
  rintro e w' ⟨rfl, rfl⟩
  rw [h1, ← h2]
  refine ⟨_, rfl, rfl, fun j t hj => ?_, by simp, (Below.refl _ _).alloc (Nat.le_refl _) _⟩
  have hlt : j < (pieces s).length := (List.getElem?_eq_some_iff.1 hj).1
  have h := heap_alloc_new w (.cells ((pieces s).map Value.string).toArray 9)
  rw [cell_of_block h j]
  simp [hj]
end Go.Proofs.YtcheafeaioflmaaDoor
