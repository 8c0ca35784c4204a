/- The walks of the laws WordKinds and WordTotal: awake, number. -/
import Derived.Test.YtnmmlihgbiebhaaDoorWordLib
namespace Go.Proofs.YtnmmlihgbiebhaaDoor
open Go Go.RowKit
set_option linter.unusedSimpArgs false
set_option linter.unusedVariables false

theorem word_awake (w : World) : Calls Tryd.prog 13 #[] w fun e w' => e = .returned (.bool true) ∧ w' = w := by
  go_enter Tryd.func13, Tryd.ntmps13
  have hc := cell_any w 3 (by decide) (by decide)
  rw [if_pos (by decide)] at hc
  have ha := atom_any w 3 (by decide) (by decide)
  rw [if_neg (by decide)] at ha
  have HC := Lib.hid hc
  have HA := Lib.hid ha
  clear hc ha
  go_wp2_with fail
  refine HC.out.mono ?_
  rintro e w' ⟨rfl, rfl⟩
  go_wp2_with fail
  refine HA.out.mono ?_
  rintro e w' ⟨rfl, rfl⟩
  go_wp2_with fail
  refine (text7 _).mono ?_
  rintro e w' ⟨rfl, rfl⟩
  go_wp2_with fail
  refine (text6 _).mono ?_
  rintro e w' ⟨rfl, rfl⟩
  go_wp2_with fail
  go_ret
  exact ⟨by rfl, rfl⟩
theorem number_any (w : World) (n : Int) (ok : Bool) (h0 : -9223372036854775807 ≤ n) (h1 : n < 9223372036854775808) :
    Calls Tryd.prog 14 #[.int .i64 n, .bool ok] w fun e w' => e = .returned (.int .i64 (if ok = true then n else -1 - n)) ∧ w' = w := by
  cases ok
  · go_enter Tryd.func14, Tryd.ntmps14
    go_wp2_with fail
    go_ret
    exact ⟨rfl, rfl⟩
  · go_enter Tryd.func14, Tryd.ntmps14
    go_wp2_with fail
    go_ret
    exact ⟨rfl, rfl⟩
theorem kinds_walk (w : World) (a k : Int) (h0 : 0 ≤ a) (h1 : a < 18446744073709551616) (k0 : -9223372036854775808 ≤ k) (k1 : k < 9223372036854775808) :
    Calls Tryd.prog 3 #[.int .u64 a, .int .i64 k] w fun e w' => e = .returned (.bool true) ∧ Below w.heap.size w w' := by
  obtain ⟨x, hx⟩ : ∃ x : Int, x = if k < 0 then 0 else k * 2 := ⟨_, rfl⟩
  obtain ⟨y, hy⟩ : ∃ y : Int, y = if 0 ≤ k ∧ k < 4096 then k * 2 + 1 else 0 := ⟨_, rfl⟩
  have A1 : Hid (∀ w, Calls Tryd.prog 19 #[.int .i64 k] w fun e w' => e = .returned (.int .u64 x) ∧ w' = w) := fun w => hx ▸ atom_any w k k0 k1
  have A2 : Hid (∀ w, Calls Tryd.prog 20 #[.int .i64 k] w fun e w' => e = .returned (.int .u64 x) ∧ w' = w) := fun w => hx ▸ refAtom_any w k k0 k1
  have C1 : Hid (∀ w, Calls Tryd.prog 21 #[.int .i64 k] w fun e w' => e = .returned (.int .u64 y) ∧ w' = w) := fun w => hy ▸ cell_any w k k0 k1
  have C2 : Hid (∀ w, Calls Tryd.prog 22 #[.int .i64 k] w fun e w' => e = .returned (.int .u64 y) ∧ w' = w) := fun w => hy ▸ refCell_any w k k0 k1
  clear hx hy
  obtain ⟨p, ok, q, IA, HP, IR⟩ : ∃ (p : Int) (ok : Bool) (q : Int), Hid (∀ w, Calls Tryd.prog 15 #[.int .u64 a] w fun e w' => e = .returned (.tuple #[.int .i64 p, .bool ok]) ∧ w' = w) ∧ Hid (∀ w, Calls Tryd.prog 14 #[.int .i64 p, .bool ok] w fun e w' => e = .returned (.int .i64 q) ∧ w' = w) ∧ Hid (∀ w, Calls Tryd.prog 16 #[.int .u64 a] w fun e w' => e = .returned (.int .i64 q) ∧ w' = w) := by
    rcases Int.emod_two_eq a with h | h
    · exact ⟨a / 2, true, a / 2, fun w => by simpa [h] using isAtom_any w a h0 h1, fun w => by simpa using number_any w (a / 2) true (by omega) (by omega), fun w => by simpa [h] using refIsAtom_any w a h0 h1⟩
    · exact ⟨0, false, -1, fun w => by simpa [h] using isAtom_any w a h0 h1, fun w => by simpa using number_any w 0 false (by omega) (by omega), fun w => by simpa [h] using refIsAtom_any w a h0 h1⟩
  obtain ⟨p', ok', q', IC, HP', IR'⟩ : ∃ (p : Int) (ok : Bool) (q : Int), Hid (∀ w, Calls Tryd.prog 17 #[.int .u64 a] w fun e w' => e = .returned (.tuple #[.int .i64 p, .bool ok]) ∧ w' = w) ∧ Hid (∀ w, Calls Tryd.prog 14 #[.int .i64 p, .bool ok] w fun e w' => e = .returned (.int .i64 q) ∧ w' = w) ∧ Hid (∀ w, Calls Tryd.prog 18 #[.int .u64 a] w fun e w' => e = .returned (.int .i64 q) ∧ w' = w) := by
    by_cases h : a % 2 = 1 ∧ a < 8192
    · exact ⟨a / 2, true, a / 2, fun w => by simpa [h] using isCell_any w a h0 h1, fun w => by simpa using number_any w (a / 2) true (by omega) (by omega), fun w => by simpa [h] using refIsCell_any w a h0 h1⟩
    · exact ⟨0, false, -1, fun w => by simpa only [if_neg h, decide_eq_false h] using isCell_any w a h0 h1, fun w => by simpa using number_any w 0 false (by omega) (by omega), fun w => by simpa only [if_neg h] using refIsCell_any w a h0 h1⟩
  go_enter Tryd.func3, Tryd.ntmps3
  go_wp2_with fail
  refine (word_awake _).mono ?_
  rintro e w' ⟨rfl, rfl⟩
  go_wp2_with fail
  refine (IA.out _).mono ?_
  rintro e w' ⟨rfl, rfl⟩
  go_wp2_with fail
  refine (HP.out _).mono ?_
  rintro e w' ⟨rfl, rfl⟩
  go_wp2_with fail
  refine (IR.out _).mono ?_
  rintro e w' ⟨rfl, rfl⟩
  go_wp2_with fail
  refine (IC.out _).mono ?_
  rintro e w' ⟨rfl, rfl⟩
  go_wp2_with fail
  refine (HP'.out _).mono ?_
  rintro e w' ⟨rfl, rfl⟩
  go_wp2_with fail
  refine (IR'.out _).mono ?_
  rintro e w' ⟨rfl, rfl⟩
  go_wp2_with fail
  refine (A1.out _).mono ?_
  rintro e w' ⟨rfl, rfl⟩
  go_wp2_with fail
  refine (A2.out _).mono ?_
  rintro e w' ⟨rfl, rfl⟩
  go_wp2_with fail
  refine (C1.out _).mono ?_
  rintro e w' ⟨rfl, rfl⟩
  go_wp2_with fail
  refine (C2.out _).mono ?_
  rintro e w' ⟨rfl, rfl⟩
  go_wp2_with fail
  go_ret
  exact ⟨rfl, Below.refl _ _⟩
end Go.Proofs.YtnmmlihgbiebhaaDoor
