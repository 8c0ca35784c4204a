/- What strings.Split at a space gives: the parts. -/
import Derived.Test.YtcheafeaioflmaaDoorParts
import Derived.Test.YtcheafeaioflmaaDoorDigits
import Derived.Lib.SplitLaws
namespace Go.Proofs.YtcheafeaioflmaaDoor
open Go Go.RowKit
set_option linter.unusedSimpArgs false

theorem idx_end (a : List UInt8) (h : NoSp a) : Lib.index a [32] = -1 := by
  refine Lib.index_none fun j _ => ?_
  unfold Lib.occAt
  cases hd : a.drop j with
  | nil => rfl
  | cons x r =>
    have hx : x ∈ a := List.mem_of_mem_drop (i := j) (by rw [hd]; simp)
    have := h x hx
    simp [List.isPrefixOf]
    exact fun e => this e.symm
theorem idx_cut (a r : List UInt8) (h : NoSp a) : Lib.index (a ++ 32 :: r) [32] = a.length := by
  refine Lib.index_first (by simp) ?_ fun j hj => ?_
  · unfold Lib.occAt
    rw [List.drop_left]
    simp [List.isPrefixOf]
  · unfold Lib.occAt
    rw [List.drop_append_of_le_length (by omega), List.drop_eq_getElem_cons hj, List.cons_append]
    have := h _ (List.getElem_mem hj)
    simp [List.isPrefixOf]
    exact fun e => this e.symm
theorem split_parts : ∀ (n : Nat) (s : List UInt8), s.length ≤ n → Lib.splitK [32] 0 (Lib.count s [32]) s = parts s ∧ (parts s).length = Lib.count s [32] + 1 := by
  intro n
  induction n with
  | zero =>
    intro s hs
    obtain rfl : s = [] := List.length_eq_zero_iff.1 (by omega)
    exact ⟨rfl, rfl⟩
  | succ n ih =>
    intro s hs
    by_cases hm : (32 : UInt8) ∈ s
    · obtain ⟨a, r, rfl, hn⟩ := List.eq_append_cons_of_mem hm
      have ha : NoSp a := fun x hx e => hn (e ▸ hx)
      have hi := idx_cut a r ha
      have hd : (a ++ 32 :: r).drop (a.length + [(32 : UInt8)].length) = r := by simp
      have hc := Lib.count_hit (by simp) hi
      rw [hd] at hc
      obtain ⟨i1, i2⟩ := ih r (by simp at hs; omega)
      rw [hc, parts_cut a r ha, Nat.add_comm 1]
      refine ⟨?_, by simp [i2]⟩
      unfold Lib.splitK
      have hne : ¬ (Lib.index (a ++ 32 :: r) [32] == -1) = true := fun e => by have := beq_iff_eq.1 e; omega
      rw [if_neg hne, hi, Int.toNat_natCast, hd, i1]
      simp
    · have ha : NoSp s := fun x hx e => hm (e ▸ hx)
      have hi := idx_end s ha
      rw [Lib.count_miss hi, parts_end s ha]
      exact ⟨rfl, rfl⟩
/-- the pieces of a text -/
def pieces (s : ByteArray) : List ByteArray := (parts s.data.toList).map fun l => ⟨l.toArray⟩
theorem splitB_pieces (s : ByteArray) : Lib.splitB ⟨#[32]⟩ 0 (Lib.countB s ⟨#[32]⟩) s = pieces s ∧ (pieces s).length = Lib.countB s ⟨#[32]⟩ + 1 := by
  obtain ⟨h1, h2⟩ := split_parts _ s.data.toList (Nat.le_refl _)
  have hd := Lib.splitB_data ⟨#[32]⟩ 0 (Lib.countB s ⟨#[32]⟩) s
  have hp : (pieces s).map (·.data.toList) = parts s.data.toList := by
    unfold pieces
    rw [List.map_map]
    refine (List.map_congr_left (g := id) fun l _ => ?_).trans (List.map_id _)
    simp
  have hq : (Lib.splitB ⟨#[32]⟩ 0 (Lib.countB s ⟨#[32]⟩) s).map (·.data.toList) = (pieces s).map (·.data.toList) := by
    rw [hd, hp, ← h1]
  refine ⟨?_, ?_⟩
  · refine (List.map_inj_right ?_).1 hq
    intro x y e
    exact bytes_ext e
  · rw [show (pieces s).length = (parts s.data.toList).length by simp [pieces], h2]
end Go.Proofs.YtcheafeaioflmaaDoor
