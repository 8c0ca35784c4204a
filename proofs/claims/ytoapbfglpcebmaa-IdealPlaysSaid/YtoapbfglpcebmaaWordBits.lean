/- Bits of a word, and word.Atom. -/
import Derived.Test.YtoapbfglpcebmaaBase
namespace Go.Proofs.Ytoapbfglpcebmaa
open Go Go.RowKit
set_option linter.unusedSimpArgs false
set_option linter.unusedVariables false

theorem and_one (a : Int) (h0 : 0 ≤ a) (h1 : a < 18446744073709551616) : bits BinOp.and IntKind.u64 a 1 = a % 2 := by
  obtain ⟨n, rfl⟩ := Int.eq_ofNat_of_zero_le h0
  have h : (BitVec.ofInt IntKind.u64.bits (n : Int) &&& BitVec.ofInt IntKind.u64.bits 1).toNat = n % 2 := by
    rw [BitVec.toNat_and]
    simp [IntKind.bits, Nat.and_one_is_mod]
  unfold bits
  simp only
  rw [h]
  have : IntKind.u64.wrap ((n % 2 : Nat) : Int) = ((n % 2 : Nat) : Int) := by
    unfold IntKind.wrap; simp [IntKind.bits, IntKind.signed]; omega
  rw [this]; omega
theorem or_one (a : Int) (h0 : 0 ≤ a) (h1 : a < 9223372036854775808) : bits BinOp.or IntKind.u64 (a * 2) 1 = a * 2 + 1 := by
  obtain ⟨n, rfl⟩ := Int.eq_ofNat_of_zero_le h0
  have h : (BitVec.ofInt IntKind.u64.bits ((n : Int) * 2) ||| BitVec.ofInt IntKind.u64.bits 1).toNat = n * 2 + 1 := by
    rw [BitVec.toNat_or]
    have e : (n : Int) * 2 = ((n * 2 : Nat) : Int) := by omega
    rw [e]
    simp only [BitVec.toNat_ofInt, IntKind.bits]
    have := Nat.shiftLeft_add_eq_or_of_lt (a := n) (b := 1) (i := 1) (by decide)
    rw [Nat.shiftLeft_eq] at this
    rw [show ((((n * 2 : Nat) : Int) % ((2 ^ 64 : Nat) : Int)).toNat) = n * 2 ^ 1 by omega, show ((1 : Int) % ((2 ^ 64 : Nat) : Int)).toNat = 1 by decide, ← this]
  unfold bits
  simp only
  rw [h]
  unfold IntKind.wrap; simp [IntKind.bits, IntKind.signed]; omega
theorem atom_any (w : World) (k : Int) (h0 : -9223372036854775808 ≤ k) (h1 : k < 9223372036854775808) :
    Calls Try.prog 51 #[.int .i64 k] w fun e w' => e = .returned (.int .u64 (if k < 0 then 0 else k * 2)) ∧ w' = w := by
  by_cases h : k < 0
  · rw [if_pos h]
    have d : decide (k < 0) = true := by simpa using h
    go_enter Try.func51, Try.ntmps51
    go_wp2_with fail
    go_ret
    exact ⟨rfl, rfl⟩
  · rw [if_neg h]
    have d : decide (k < 0) = false := by simpa using h
    go_enter Try.func51, Try.ntmps51
    go_wp2_with fail
    go_ret
    exact ⟨rfl, rfl⟩
end Go.Proofs.Ytoapbfglpcebmaa
