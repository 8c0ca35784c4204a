/- The word of a text: word.Parse at any text, and the reference's text of a word. -/
import Derived.Test.YtipoklnoknkfhaaDoorWordText
import Derived.Test.YtipoklnoknkfhaaDoorDigits
import Derived.Shelf.Strings.SlTrimAscii
import Derived.Lib.SmallJoins
namespace Go.Proofs.YtipoklnoknkfhaaDoor
open Go Go.RowKit
set_option linter.unusedSimpArgs false
set_option linter.unusedVariables false

/-- the library's two errors are there -/
def Errs (w : World) : Prop := (∃ ev, w.cell? ⟨3, 0, none⟩ = some ev ∧ (ev = .nilIface ∨ ∃ te pe, ev = .iface te pe)) ∧ (∃ ev, w.cell? ⟨4, 0, none⟩ = some ev ∧ (ev = .nilIface ∨ ∃ te pe, ev = .iface te pe))
theorem Errs.below {w w' : World} {B : Nat} (h : Errs w) (hB : w.heap.size ≤ B) (hb : Below B w w') : Errs w' := by
  obtain ⟨⟨e1, c1, h1⟩, ⟨e2, c2, h2⟩⟩ := h
  have l1 := World.block_lt_of_cell? w _ c1
  have l2 := World.block_lt_of_cell? w _ c2
  exact ⟨⟨e1, (hb.cell (Nat.lt_of_lt_of_le l1 hB)).trans c1, h1⟩, ⟨e2, (hb.cell (Nat.lt_of_lt_of_le l2 hB)).trans c2, h2⟩⟩
theorem reftext_any (w : World) (a : Int) (h0 : 0 ≤ a) (h1 : a < 18446744073709551616) :
    Calls Tryd.prog 91 #[.int .u64 a] w fun e w' => e = .returned (.string (wtext a)) ∧ Below w.heap.size w w' := by
  obtain ⟨u, hu⟩ : ∃ u : Nat, a / 2 = u := ⟨(a / 2).toNat, by omega⟩
  have F := Lib.hid (refdigits_any w u (by omega))
  obtain ⟨hd1, hd2⟩ := dec_size u (by omega)
  have ee : (a / 2).toNat = u := by omega
  have hz : ¬ 9223372036854775807 < 1 + (dec u).size := by omega
  rcases Int.emod_two_eq a with h | h
  · have et : Hid (wtext a = dec u) := by unfold Hid wtext; rw [if_neg (by omega), ee]
    have e1 : (a % 2 == 0) = true := by rw [h]; rfl
    clear ee h
    go_enter Tryd.func91, Tryd.ntmps91
    go_wp2_with fail
    refine F.out.mono ?_
    rintro e w' ⟨rfl, hb⟩
    have HB := Lib.hid hb
    clear hb
    go_wp2_with fail
    go_ret
    exact ⟨by rw [et.out]; rfl, HB.out⟩
  · have e1 : (a % 2 == 0) = false := by rw [h]; rfl
    by_cases h2 : a < 8192
    · have et : Hid (wtext a = ⟨#[35]⟩ ++ dec u) := by unfold Hid wtext wpre; rw [if_pos h, if_pos h, if_pos h2, ee]
      have d2 : decide (a < 8192) = true := by simpa using h2
      clear ee h h2
      go_enter Tryd.func91, Tryd.ntmps91
      go_wp2_with fail
      refine F.out.mono ?_
      rintro e w' ⟨rfl, hb⟩
      have HB := Lib.hid hb
      clear hb
      go_wp2_with fail
      go_ret
      exact ⟨by rw [et.out]; rfl, HB.out⟩
    · have et : Hid (wtext a = ⟨#[63]⟩ ++ dec u) := by unfold Hid wtext wpre; rw [if_pos h, if_pos h, if_neg h2, ee]
      have d2 : decide (a < 8192) = false := by simpa using h2
      clear ee h h2
      go_enter Tryd.func91, Tryd.ntmps91
      go_wp2_with fail
      refine F.out.mono ?_
      rintro e w' ⟨rfl, hb⟩
      have HB := Lib.hid hb
      clear hb
      go_wp2_with fail
      go_ret
      exact ⟨by rw [et.out]; rfl, HB.out⟩
/-! ### ParseUint, the public one -/
set_option maxRecDepth 100000 in
theorem pu_empty (w : World) : Calls Tryd.prog 165 #[.string ⟨#[]⟩, .int .i64 10, .int .i64 63] w fun e w' => e = .returned (puVal none) ∧ w' = w := by
  go_enter Tryd.func165, Tryd.ntmps165
  go_wp2
  go_ret2
  exact ⟨rfl, rfl⟩
/-- the number of a text that is not empty -/
def puOf (l : List UInt8) : Option (Option Nat) := if l = [] then none else pu 0 l
theorem pu_any (t : ByteArray) (hmax : t.size ≤ 1000000) (w : World) :
    Calls Tryd.prog 165 #[.string t, .int .i64 10, .int .i64 63] w fun e w' => e = .returned (puVal (puOf t.data.toList)) ∧ Below w.heap.size w w' := by
  by_cases h0 : t.size = 0
  · have ht : t = ⟨#[]⟩ := by
      apply ByteArray.ext
      exact Array.eq_empty_of_size_eq_zero h0
    subst ht
    refine (pu_empty w).mono fun e w' ⟨he, hw⟩ => ?_
    subst hw
    exact ⟨he, Below.refl _ _⟩
  · have hne : t.data.toList ≠ [] := fun h => h0 (by rw [← bytes_len, h]; rfl)
    refine (pu_in t h0 hmax w).mono fun e w' ⟨he, hw⟩ => ?_
    subst hw
    exact ⟨by rw [he]; unfold puOf; rw [if_neg hne], Lib.bytesWorld_below _ _ _⟩
def PuErr (w : World) (e : Ending) (w' : World) : Prop := ∃ v N, e = .returned (.tuple #[.int .u64 v, .iface 222 (.pointer (some ⟨N, 0, none⟩))]) ∧ Below w.heap.size w w'
/-! ### TrimLeft -/
/-! ### Parse -/
theorem str_eqT {a b : ByteArray} (h : a = b) : (a.toList == b.toList) = true := by rw [h]; simp
theorem str_neT {a b : ByteArray} (h : ¬ a = b) : (a.toList == b.toList) = false := by
  rw [beq_eq_false_iff_ne]
  intro e
  exact h (bytes_ext (by rw [← Go.ByteArray.toList_eq, ← Go.ByteArray.toList_eq]; exact e))
def wval (s : ByteArray) : Int := (wread s).getD 0
def werr (s : ByteArray) : Int := if (wread s).isSome = true then 0 else 3
theorem puOf_cand (l : List UInt8) (n : Nat) (h : puOf (unmark l) = some (some n)) : wcand l = some (2 * (n : Int) + (if (unmark l).length < l.length then 1 else 0)) ∧ n ≤ 9223372036854775807 := by
  unfold puOf at h
  by_cases he : unmark l = []
  · rw [if_pos he] at h; cases h
  · rw [if_neg he] at h
    exact ⟨by unfold wcand; rw [h]; simp only; rw [if_neg he], pu_le _ 0 n (by omega) h⟩
theorem puOf_none (s : ByteArray) (h : ∀ n, puOf (unmark s.data.toList) ≠ some (some n)) : wread s = none := by
  unfold wread wcand
  unfold puOf at h
  by_cases he : unmark s.data.toList = []
  · cases hp : pu 0 (unmark s.data.toList) with
    | none => rfl
    | some o => cases o with
      | none => rfl
      | some n => simp [he]
  · cases hp : pu 0 (unmark s.data.toList) with
    | none => rfl
    | some o => cases o with
      | none => rfl
      | some n =>
        have := h n
        rw [if_neg he, hp] at this
        exact absurd rfl this
theorem wread_of (s : ByteArray) (x : Int) (h : wcand s.data.toList = some x) : wread s = if wtext x = s then some x else none := by unfold wread; rw [h]
end Go.Proofs.YtipoklnoknkfhaaDoor
