/- A word's text; the walk of the law WordTotal. -/
import Derived.Test.YtnmmlihgbiebhaaDoorWordKinds
import Derived.Test.YtnmmlihgbiebhaaDoorFormat
namespace Go.Proofs.YtnmmlihgbiebhaaDoor
open Go Go.RowKit
set_option linter.unusedSimpArgs false
set_option linter.unusedVariables false

/-- what stands ahead of the number in a word's text -/
def wpre (a : Int) : ByteArray := if a % 2 = 1 then (if a < 8192 then ⟨#[35]⟩ else ⟨#[63]⟩) else ⟨#[]⟩
def wtext (a : Int) : ByteArray := if a % 2 = 1 then wpre a ++ dec (a / 2).toNat else dec (a / 2).toNat
theorem text_any (w : World) (a : Int) (h0 : 0 ≤ a) (h1 : a < 18446744073709551616) (ht : Tens w) :
    Calls Tryd.prog 23 #[.int .u64 a] w fun e w' => e = .returned (.string (wtext a)) ∧ Below w.heap.size w w' := by
  have e1 := and_one a h0 h1
  obtain ⟨u, hu⟩ : ∃ u : Nat, a / 2 = u := ⟨(a / 2).toNat, by omega⟩
  have F := Lib.hid (fmt_any w u (by omega) ht)
  obtain ⟨hd1, hd2⟩ := dec_size u (by omega)
  have ee : (a / 2).toNat = u := by omega
  rcases Int.emod_two_eq a with h | h
  · have C : Hid (∀ w, Calls Tryd.prog 17 #[.int .u64 a] w fun e w' => e = .returned (.tuple #[.int .i64 0, .bool false]) ∧ w' = w) := fun w => by simpa [h] using isCell_any w a h0 h1
    have et : Hid (wtext a = dec u) := by unfold Hid wtext; rw [if_neg (by omega), ee]
    rw [h] at e1
    clear h ht ee
    go_enter Tryd.func23, Tryd.ntmps23
    go_wp2_with fail
    refine F.out.mono ?_
    rintro e w' ⟨rfl, hb⟩
    have HB := Lib.hid hb
    clear hb
    go_wp2_with fail
    refine (C.out _).mono ?_
    rintro e w' ⟨rfl, rfl⟩
    go_wp2_with fail
    go_ret
    exact ⟨by rw [et.out]; rfl, HB.out⟩
  · rw [h] at e1
    by_cases h2 : a < 8192
    · have C : Hid (∀ w, Calls Tryd.prog 17 #[.int .u64 a] w fun e w' => e = .returned (.tuple #[.int .i64 (a / 2), .bool true]) ∧ w' = w) := fun w => by simpa [h, h2] using isCell_any w a h0 h1
      have et : Hid (wtext a = ⟨#[35]⟩ ++ dec u) := by unfold Hid wtext wpre; rw [if_pos h, if_pos h, if_pos h2, ee]
      clear h ht ee h2
      go_enter Tryd.func23, Tryd.ntmps23
      go_wp2_with fail
      refine F.out.mono ?_
      rintro e w' ⟨rfl, hb⟩
      have HB := Lib.hid hb
      clear hb
      go_wp2_with fail
      refine (C.out _).mono ?_
      rintro e w' ⟨rfl, rfl⟩
      go_wp2_with fail
      go_ret
      exact ⟨by rw [et.out]; rfl, HB.out⟩
    · have C : Hid (∀ w, Calls Tryd.prog 17 #[.int .u64 a] w fun e w' => e = .returned (.tuple #[.int .i64 0, .bool false]) ∧ w' = w) := fun w => by simpa [h, h2] using isCell_any w a h0 h1
      have et : Hid (wtext a = ⟨#[63]⟩ ++ dec u) := by unfold Hid wtext wpre; rw [if_pos h, if_pos h, if_neg h2, ee]
      clear h ht ee h2
      go_enter Tryd.func23, Tryd.ntmps23
      go_wp2_with fail
      refine F.out.mono ?_
      rintro e w' ⟨rfl, hb⟩
      have HB := Lib.hid hb
      clear hb
      go_wp2_with fail
      refine (C.out _).mono ?_
      rintro e w' ⟨rfl, rfl⟩
      go_wp2_with fail
      go_ret
      exact ⟨by rw [et.out]; rfl, HB.out⟩
theorem total_walk (w : World) (a : Int) (h0 : 0 ≤ a) (h1 : a < 18446744073709551616) (ht : Tens w) :
    Calls Tryd.prog 4 #[.int .u64 a] w fun e w' => e = .returned (.bool true) ∧ Below w.heap.size w w' := by
  have T := Lib.hid (text_any w a h0 h1 ht)
  rcases Int.emod_two_eq a with h | h
  · have A : Hid (∀ w, Calls Tryd.prog 15 #[.int .u64 a] w fun e w' => e = .returned (.tuple #[.int .i64 (a / 2), .bool true]) ∧ w' = w) := fun w => by simpa [h] using isAtom_any w a h0 h1
    have C : Hid (∀ w, Calls Tryd.prog 17 #[.int .u64 a] w fun e w' => e = .returned (.tuple #[.int .i64 0, .bool false]) ∧ w' = w) := fun w => by simpa [h] using isCell_any w a h0 h1
    have M : Hid (∀ w, Calls Tryd.prog 19 #[.int .i64 (a / 2)] w fun e w' => e = .returned (.int .u64 a) ∧ w' = w) := fun w => by
      have := atom_any w (a / 2) (by omega) (by omega)
      rwa [if_neg (by omega), show a / 2 * 2 = a by omega] at this
    have d : decide (0 ≤ a / 2) = true := by simp; omega
    clear ht
    go_enter Tryd.func4, Tryd.ntmps4
    go_wp2_with fail
    refine (word_awake _).mono ?_
    rintro e w' ⟨rfl, rfl⟩
    go_wp2_with fail
    refine (A.out _).mono ?_
    rintro e w' ⟨rfl, rfl⟩
    go_wp2_with fail
    refine (C.out _).mono ?_
    rintro e w' ⟨rfl, rfl⟩
    go_wp2_with fail
    refine (M.out _).mono ?_
    rintro e w' ⟨rfl, rfl⟩
    go_wp2_with fail
    go_ret
    exact ⟨rfl, Below.refl _ _⟩
  · by_cases h2 : a < 8192
    · have A : Hid (∀ w, Calls Tryd.prog 15 #[.int .u64 a] w fun e w' => e = .returned (.tuple #[.int .i64 0, .bool false]) ∧ w' = w) := fun w => by simpa [h] using isAtom_any w a h0 h1
      have C : Hid (∀ w, Calls Tryd.prog 17 #[.int .u64 a] w fun e w' => e = .returned (.tuple #[.int .i64 (a / 2), .bool true]) ∧ w' = w) := fun w => by simpa [h, h2] using isCell_any w a h0 h1
      have M : Hid (∀ w, Calls Tryd.prog 21 #[.int .i64 (a / 2)] w fun e w' => e = .returned (.int .u64 a) ∧ w' = w) := fun w => by
        have := cell_any w (a / 2) (by omega) (by omega)
        rwa [if_pos (by omega), show a / 2 * 2 + 1 = a by omega] at this
      have d : decide (0 ≤ a / 2) = true := by simp; omega
      have d2 : decide (a / 2 < 4096) = true := by simp; omega
      clear ht
      go_enter Tryd.func4, Tryd.ntmps4
      go_wp2_with fail
      refine (word_awake _).mono ?_
      rintro e w' ⟨rfl, rfl⟩
      go_wp2_with fail
      refine (A.out _).mono ?_
      rintro e w' ⟨rfl, rfl⟩
      go_wp2_with fail
      refine (C.out _).mono ?_
      rintro e w' ⟨rfl, rfl⟩
      go_wp2_with fail
      refine (M.out _).mono ?_
      rintro e w' ⟨rfl, rfl⟩
      go_wp2_with fail
      go_ret
      exact ⟨rfl, Below.refl _ _⟩
    · have A : Hid (∀ w, Calls Tryd.prog 15 #[.int .u64 a] w fun e w' => e = .returned (.tuple #[.int .i64 0, .bool false]) ∧ w' = w) := fun w => by simpa [h] using isAtom_any w a h0 h1
      have C : Hid (∀ w, Calls Tryd.prog 17 #[.int .u64 a] w fun e w' => e = .returned (.tuple #[.int .i64 0, .bool false]) ∧ w' = w) := fun w => by simpa [h, h2] using isCell_any w a h0 h1
      obtain ⟨hd1, hd2⟩ := dec_size (a / 2).toNat (by omega)
      have et : wtext a = ⟨#[63]⟩ ++ dec (a / 2).toNat := by unfold wtext wpre; rw [if_pos h, if_pos h, if_neg h2]
      have s1 : (1 : Int) < (wtext a).size := by rw [et, ByteArray.size_append]; show (1 : Int) < ((1 + (dec (a / 2).toNat).size : Nat) : Int); omega
      have s2 : ∀ hx : 0 < (wtext a).size, (wtext a)[0].toNat = 63 := by
        rw [et]
        intro hx
        rw [ByteArray.getElem_append_left (by decide)]
        rfl
      have S2 := Lib.hid s2
      clear s2 et hd1 hd2
      clear ht
      go_enter Tryd.func4, Tryd.ntmps4
      go_wp2_with fail
      refine (word_awake _).mono ?_
      rintro e w' ⟨rfl, rfl⟩
      go_wp2_with fail
      refine (A.out _).mono ?_
      rintro e w' ⟨rfl, rfl⟩
      go_wp2_with fail
      refine (C.out _).mono ?_
      rintro e w' ⟨rfl, rfl⟩
      go_wp2_with fail
      refine T.out.mono ?_
      rintro e w' ⟨rfl, hb⟩
      have HB := Lib.hid hb
      clear hb
      go_wp2_with fail
      go_ret
      refine ⟨?_, HB.out⟩
      show Ending.returned (.bool (((wtext a)[0].toNat : Int) == 63)) = _
      rw [S2.out]
      rfl
end Go.Proofs.YtnmmlihgbiebhaaDoor
