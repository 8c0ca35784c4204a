/- Package word and its twin mudlarkref01: what each function returns. -/
import Derived.Test.YtipoklnoknkfhaaDoorBase
import Derived.Test.YtipoklnoknkfhaaDoorShelf
namespace Go.Proofs.YtipoklnoknkfhaaDoor
open Go Go.RowKit
set_option linter.unusedSimpArgs false
set_option linter.unusedVariables false

theorem and_one (a : Int) (h0 : 0 ≤ a) (h1 : a < 18446744073709551616) : bits BinOp.and IntKind.u64 a 1 = a % 2 := by
  obtain ⟨n, rfl⟩ := Int.eq_ofNat_of_zero_le h0
  have h : (BitVec.ofInt IntKind.u64.bits (n : Int) &&& BitVec.ofInt IntKind.u64.bits 1).toNat = n % 2 := by
    rw [BitVec.toNat_and]
    simp [IntKind.bits, Nat.and_one_is_mod]
  unfold bits
  simp only
  rw [h]
  have : IntKind.u64.wrap ((n % 2 : Nat) : Int) = ((n % 2 : Nat) : Int) := by
    unfold IntKind.wrap; simp [IntKind.bits, IntKind.signed]; omega
  rw [this]; omega
theorem or_one (a : Int) (h0 : 0 ≤ a) (h1 : a < 9223372036854775808) : bits BinOp.or IntKind.u64 (a * 2) 1 = a * 2 + 1 := by
  obtain ⟨n, rfl⟩ := Int.eq_ofNat_of_zero_le h0
  have h : (BitVec.ofInt IntKind.u64.bits ((n : Int) * 2) ||| BitVec.ofInt IntKind.u64.bits 1).toNat = n * 2 + 1 := by
    rw [BitVec.toNat_or]
    have e : (n : Int) * 2 = ((n * 2 : Nat) : Int) := by omega
    rw [e]
    simp only [BitVec.toNat_ofInt, IntKind.bits]
    have := Nat.shiftLeft_add_eq_or_of_lt (a := n) (b := 1) (i := 1) (by decide)
    rw [Nat.shiftLeft_eq] at this
    rw [show ((((n * 2 : Nat) : Int) % ((2 ^ 64 : Nat) : Int)).toNat) = n * 2 ^ 1 by omega, show ((1 : Int) % ((2 ^ 64 : Nat) : Int)).toNat = 1 by decide, ← this]
  unfold bits
  simp only
  rw [h]
  unfold IntKind.wrap; simp [IntKind.bits, IntKind.signed]; omega
theorem isCell_any (w : World) (a : Int) (h0 : 0 ≤ a) (h1 : a < 18446744073709551616) :
    Calls Tryd.prog 141 #[.int .u64 a] w fun e w' => e = .returned (.tuple #[.int .i64 (if a % 2 = 1 ∧ a < 8192 then a / 2 else 0), .bool (decide (a % 2 = 1 ∧ a < 8192))]) ∧ w' = w := by
  have e1 := and_one a h0 h1
  rcases Int.emod_two_eq a with h | h
  · rw [h] at e1
    simp only [h]
    go_enter Tryd.func141, Tryd.ntmps141
    go_wp2_with fail
    go_ret2
    exact ⟨by simp, rfl⟩
  · rw [h] at e1
    simp only [h]
    by_cases h2 : a < 8192
    · have d : decide (4096 ≤ a / 2) = false := by simp; omega
      simp only [h2]
      go_enter Tryd.func141, Tryd.ntmps141
      go_wp2_with fail
      go_ret2
      exact ⟨by simp, rfl⟩
    · have d : decide (4096 ≤ a / 2) = true := by simp; omega
      simp only [h2]
      go_enter Tryd.func141, Tryd.ntmps141
      go_wp2_with fail
      go_ret2
      exact ⟨by simp, rfl⟩
theorem atom_any (w : World) (k : Int) (h0 : -9223372036854775808 ≤ k) (h1 : k < 9223372036854775808) :
    Calls Tryd.prog 51 #[.int .i64 k] w fun e w' => e = .returned (.int .u64 (if k < 0 then 0 else k * 2)) ∧ w' = w := by
  by_cases h : k < 0
  · rw [if_pos h]
    have d : decide (k < 0) = true := by simpa using h
    go_enter Tryd.func51, Tryd.ntmps51
    go_wp2_with fail
    go_ret
    exact ⟨rfl, rfl⟩
  · rw [if_neg h]
    have d : decide (k < 0) = false := by simpa using h
    go_enter Tryd.func51, Tryd.ntmps51
    go_wp2_with fail
    go_ret
    exact ⟨rfl, rfl⟩
theorem funit_small (w : World) (i : Nat) (h : i < 100) :
    Calls Tryd.prog 140 #[.int .u64 i, .int .i64 10] w fun e w' => e = .returned (.string ⟨(Lib.decDigits i).toArray⟩) ∧ w' = w := by
  have d : decide ((i : Int) < 100) = true := by simp; omega
  go_enter Tryd.func140, Tryd.ntmps140
  go_wp2_with fail
  have hin : Calls Tryd.prog 157 #[.int .u64 i, .int .i64 10] w fun e w' => e = .returned (.string ⟨(Lib.decDigits i).toArray⟩) ∧ w' = w := by
    go_enter Tryd.func157, Tryd.ntmps157
    go_wp2_with fail
    refine (Tryd.internal_strconv_small i h _).mono ?_
    rintro e w' ⟨rfl, rfl⟩
    go_wp2_with fail
    go_ret
    exact ⟨rfl, rfl⟩
  refine hin.mono ?_
  rintro e w' ⟨rfl, rfl⟩
  go_wp2_with fail
  go_ret
  exact ⟨rfl, rfl⟩
theorem text7 (w : World) : Calls Tryd.prog 121 #[.int .u64 7] w fun e w' => e = .returned (.string ⟨#[35, 51]⟩) ∧ w' = w := by
  go_enter Tryd.func121, Tryd.ntmps121
  go_wp2_with fail
  refine (funit_small _ 3 (by decide)).mono ?_
  rintro e w' ⟨rfl, rfl⟩
  rw [show (⟨(Lib.decDigits 3).toArray⟩ : ByteArray) = ⟨#[51]⟩ by decide +kernel]
  go_wp2_with fail
  refine (isCell_any _ 7 (by decide) (by decide)).mono ?_
  rintro e w' ⟨rfl, rfl⟩
  rw [show (decide ((7 : Int) % 2 = 1 ∧ (7 : Int) < 8192)) = true by decide]
  go_wp2_with fail
  go_ret
  exact ⟨by rfl, rfl⟩
theorem text6 (w : World) : Calls Tryd.prog 121 #[.int .u64 6] w fun e w' => e = .returned (.string ⟨#[51]⟩) ∧ w' = w := by
  go_enter Tryd.func121, Tryd.ntmps121
  have e1 : bits BinOp.and IntKind.u64 6 1 = 0 := by decide
  go_wp2_with fail
  refine (funit_small _ 3 (by decide)).mono ?_
  rintro e w' ⟨rfl, rfl⟩
  rw [show (⟨(Lib.decDigits 3).toArray⟩ : ByteArray) = ⟨#[51]⟩ by decide +kernel]
  go_wp2_with fail
  refine (isCell_any _ 6 (by decide) (by decide)).mono ?_
  rintro e w' ⟨rfl, rfl⟩
  rw [show (decide ((6 : Int) % 2 = 1 ∧ (6 : Int) < 8192)) = false by decide]
  go_wp2_with fail
  go_ret
  exact ⟨by rfl, rfl⟩
/-! ### the twins -/
theorem refCell_any (w : World) (k : Int) (h0 : -9223372036854775808 ≤ k) (h1 : k < 9223372036854775808) :
    Calls Tryd.prog 84 #[.int .i64 k] w fun e w' => e = .returned (.int .u64 (if 0 ≤ k ∧ k < 4096 then k * 2 + 1 else 0)) ∧ w' = w := by
  by_cases h : 0 ≤ k ∧ k < 4096
  · rw [if_pos h]
    have d : decide (k < 0) = false := by simp; omega
    have d2 : decide (4095 < k) = false := by simp; omega
    go_enter Tryd.func84, Tryd.ntmps84
    go_wp2_with fail
    go_ret
    exact ⟨rfl, rfl⟩
  · rw [if_neg h]
    by_cases hn : k < 0
    · have d : decide (k < 0) = true := by simpa using hn
      go_enter Tryd.func84, Tryd.ntmps84
      go_wp2_with fail
      go_ret
      exact ⟨rfl, rfl⟩
    · have d : decide (k < 0) = false := by simpa using hn
      have d2 : decide (4095 < k) = true := by simp; omega
      go_enter Tryd.func84, Tryd.ntmps84
      go_wp2_with fail
      go_ret
      exact ⟨rfl, rfl⟩
theorem refIsAtom_any (w : World) (a : Int) (h0 : 0 ≤ a) (h1 : a < 18446744073709551616) :
    Calls Tryd.prog 104 #[.int .u64 a] w fun e w' => e = .returned (.int .i64 (if a % 2 = 1 then -1 else a / 2)) ∧ w' = w := by
  rcases Int.emod_two_eq a with h | h
  · simp only [h]
    go_enter Tryd.func104, Tryd.ntmps104
    go_wp2_with fail
    go_ret
    exact ⟨rfl, rfl⟩
  · simp only [h]
    go_enter Tryd.func104, Tryd.ntmps104
    go_wp2_with fail
    go_ret
    exact ⟨rfl, rfl⟩
end Go.Proofs.YtipoklnoknkfhaaDoor
