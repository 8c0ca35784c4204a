/- The walk of the law ColourNames. -/
import Derived.Test.YtnbigldfklehgaaDoorColour
namespace Go.Proofs.YtnbigldfklehgaaDoor
open Go Go.RowKit
set_option linter.unusedSimpArgs false
set_option linter.unusedVariables false

set_option maxHeartbeats 1000000 in
theorem colour_awake (w : World) (hn : Names w) : Calls Tryd.prog 5 #[] w fun e w' => e = .returned (.bool true) ∧ Below w.heap.size w w' := by
  have HN := Lib.hid hn
  clear hn
  go_enter Tryd.func5, Tryd.ntmps5
  go_wp2_with fail
  have hw : Words (w.alloc (.cells #[.int .u64 0, .int .u64 2] 23)) (w.alloc (.cells #[.int .u64 0, .int .u64 2] 23)).heap.size (some ⟨w.heap.size, 0, none⟩) [0, 2] := Ints.of_block (heap_alloc_new w _) rfl (by decide)
  have hb0 : Below w.heap.size w (w.alloc (.cells #[.int .u64 0, .int .u64 2] 23)) := (Below.refl _ _).alloc (Nat.le_refl _) _
  have HB0 := Lib.hid hb0
  refine (letters_any _ _ 2 [0, 2] hw (by simp) (by decide) (HN.out.below (Nat.le_refl _) hb0)).mono ?_
  rintro e w2 ⟨rfl, hb⟩
  rw [show letters [0, 2] = ⟨#[119, 98]⟩ by decide]
  have HB := Lib.hid (HB0.out.trans (hb.mono HB0.out.size))
  clear hb hw hb0
  go_wp2_with fail
  go_ret
  exact ⟨by rfl, HB.out⟩
theorem code_three (s : ByteArray) : ccode s = 3 ∨ ccode s < 3 := by
  unfold ccode
  split
  · right; decide
  split
  · right; decide
  split
  · right; decide
  · left; rfl
set_option maxHeartbeats 2000000 in
set_option maxRecDepth 100000 in
theorem names_walk (w : World) (a : Int) (s : ByteArray) (h0 : 0 ≤ a) (h1 : a < 18446744073709551616) (hs : s.size ≤ maxLen) (hn : Names w) :
    Calls Tryd.prog 3 #[.int .u64 a, .string s] w fun e w' => e = .returned (.bool true) ∧ Below w.heap.size w w' := by
  have HA := Lib.hid (colour_awake w hn)
  have HN := Lib.hid hn
  unfold maxLen at hs
  by_cases hl : 60 < s.size
  · have hl' : (60 : Int) < (s.size : Int) := by omega
    clear hn
    go_enter Tryd.func3, Tryd.ntmps3
    go_wp2_with fail
    refine HA.out.mono ?_
    rintro e w1 ⟨rfl, hb⟩
    have HB := Lib.hid hb
    clear hb
    go_wp2_with fail
    go_ret
    exact ⟨rfl, HB.out⟩
  have hl' : (s.size : Int) ≤ 60 := by omega
  obtain ⟨z, d0, d1⟩ : ∃ z : Int, Hid ((if a = 0 then 1 else a) = z) ∧ ((a = 0 ∧ z = 1) ∨ (¬ a = 0 ∧ z = a)) := by
    by_cases h : a = 0
    · exact ⟨1, by rw [if_pos h]; rfl, .inl ⟨h, rfl⟩⟩
    · exact ⟨a, by rw [if_neg h]; rfl, .inr ⟨h, rfl⟩⟩
  obtain ⟨A, ok, R, eA, eo, eR, hk⟩ : ∃ (A : Int) (ok : Bool) (R : Int), Hid (codeA (ccode s) = A) ∧ Hid (codeOk (ccode s) = ok) ∧ Hid (codeR (ccode s) = R) ∧ ((ok = true ∧ A = R ∧ 0 ≤ R ∧ R < 3) ∨ (ok = false ∧ A = 0 ∧ R = -1)) := by
    refine ⟨_, _, _, rfl, rfl, rfl, ?_⟩
    rcases code_three s with h | h
    · right; rw [h]; exact ⟨rfl, rfl, rfl⟩
    · left
      unfold codeA codeOk codeR
      rw [if_pos h, if_pos h]
      exact ⟨by simpa using h, rfl, by omega, by omega⟩
  rcases d1 with ⟨rfl, rfl⟩ | ⟨hz, rfl⟩ <;> rcases hk with ⟨rfl, rfl, hR0, hR1⟩ | ⟨rfl, rfl, rfl⟩
  all_goals
    clear hn
    go_enter Tryd.func3, Tryd.ntmps3
    go_wp2_with fail
    refine HA.out.mono ?_
    rintro e w1 ⟨rfl, hb⟩
    have HB := Lib.hid hb
    have HN1 := Lib.hid (HN.out.below (Nat.le_refl _) hb)
    clear hb
    go_wp2_with fail
    refine (code_any _ s HN1.out).mono ?_
    rintro e w' ⟨rfl, rfl⟩
    rw [eA.out, eo.out]
    go_wp2_with fail
    refine (refCode_any _ s).mono ?_
    rintro e w' ⟨rfl, rfl⟩
    rw [eR.out]
    go_wp2_with fail
    refine (name_any _ _ h0 h1 HN1.out).mono ?_
    rintro e w' ⟨rfl, rfl⟩
    go_wp2_with fail
    refine (refName_any _ _ h0 h1).mono ?_
    rintro e w' ⟨rfl, rfl⟩
    go_wp2_with fail
    refine (shaded_any _ _ h0 h1).mono ?_
    rintro e w' ⟨rfl, rfl⟩
    first | rw [d0.out] | rw [if_pos rfl]
    go_wp2_with fail
    go_ret
    exact ⟨by rfl, HB.out⟩
end Go.Proofs.YtnbigldfklehgaaDoor
