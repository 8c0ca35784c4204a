/- A word's text; the walk of the law WordTotal. -/
import Derived.Test.YtipoklnoknkfhaaDoorWordKinds
import Derived.Test.YtipoklnoknkfhaaDoorFormat
namespace Go.Proofs.YtipoklnoknkfhaaDoor
open Go Go.RowKit
set_option linter.unusedSimpArgs false
set_option linter.unusedVariables false

/-- what stands ahead of the number in a word's text -/
def wpre (a : Int) : ByteArray := if a % 2 = 1 then (if a < 8192 then ⟨#[35]⟩ else ⟨#[63]⟩) else ⟨#[]⟩
def wtext (a : Int) : ByteArray := if a % 2 = 1 then wpre a ++ dec (a / 2).toNat else dec (a / 2).toNat
theorem text_any (w : World) (a : Int) (h0 : 0 ≤ a) (h1 : a < 18446744073709551616) (ht : Tens w) :
    Calls Tryd.prog 121 #[.int .u64 a] w fun e w' => e = .returned (.string (wtext a)) ∧ Below w.heap.size w w' := by
  have e1 := and_one a h0 h1
  obtain ⟨u, hu⟩ : ∃ u : Nat, a / 2 = u := ⟨(a / 2).toNat, by omega⟩
  have F := Lib.hid (fmt_any w u (by omega) ht)
  obtain ⟨hd1, hd2⟩ := dec_size u (by omega)
  have ee : (a / 2).toNat = u := by omega
  rcases Int.emod_two_eq a with h | h
  · have C : Hid (∀ w, Calls Tryd.prog 141 #[.int .u64 a] w fun e w' => e = .returned (.tuple #[.int .i64 0, .bool false]) ∧ w' = w) := fun w => by simpa [h] using isCell_any w a h0 h1
    have et : Hid (wtext a = dec u) := by unfold Hid wtext; rw [if_neg (by omega), ee]
    rw [h] at e1
    clear h ht ee
    go_enter Tryd.func121, Tryd.ntmps121
    go_wp2_with fail
    refine F.out.mono ?_
    rintro e w' ⟨rfl, hb⟩
    have HB := Lib.hid hb
    clear hb
    go_wp2_with fail
    refine (C.out _).mono ?_
    rintro e w' ⟨rfl, rfl⟩
    go_wp2_with fail
    go_ret
    exact ⟨by rw [et.out]; rfl, HB.out⟩
  · rw [h] at e1
    by_cases h2 : a < 8192
    · have C : Hid (∀ w, Calls Tryd.prog 141 #[.int .u64 a] w fun e w' => e = .returned (.tuple #[.int .i64 (a / 2), .bool true]) ∧ w' = w) := fun w => by simpa [h, h2] using isCell_any w a h0 h1
      have et : Hid (wtext a = ⟨#[35]⟩ ++ dec u) := by unfold Hid wtext wpre; rw [if_pos h, if_pos h, if_pos h2, ee]
      clear h ht ee h2
      go_enter Tryd.func121, Tryd.ntmps121
      go_wp2_with fail
      refine F.out.mono ?_
      rintro e w' ⟨rfl, hb⟩
      have HB := Lib.hid hb
      clear hb
      go_wp2_with fail
      refine (C.out _).mono ?_
      rintro e w' ⟨rfl, rfl⟩
      go_wp2_with fail
      go_ret
      exact ⟨by rw [et.out]; rfl, HB.out⟩
    · have C : Hid (∀ w, Calls Tryd.prog 141 #[.int .u64 a] w fun e w' => e = .returned (.tuple #[.int .i64 0, .bool false]) ∧ w' = w) := fun w => by simpa [h, h2] using isCell_any w a h0 h1
      have et : Hid (wtext a = ⟨#[63]⟩ ++ dec u) := by unfold Hid wtext wpre; rw [if_pos h, if_pos h, if_neg h2, ee]
      clear h ht ee h2
      go_enter Tryd.func121, Tryd.ntmps121
      go_wp2_with fail
      refine F.out.mono ?_
      rintro e w' ⟨rfl, hb⟩
      have HB := Lib.hid hb
      clear hb
      go_wp2_with fail
      refine (C.out _).mono ?_
      rintro e w' ⟨rfl, rfl⟩
      go_wp2_with fail
      go_ret
      exact ⟨by rw [et.out]; rfl, HB.out⟩
end Go.Proofs.YtipoklnoknkfhaaDoor
