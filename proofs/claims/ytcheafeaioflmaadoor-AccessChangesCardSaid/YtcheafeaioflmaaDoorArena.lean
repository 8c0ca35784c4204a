/- The contracts of package arena: what each call answers, and what it does to memory. -/
import Derived.Test.YtcheafeaioflmaaDoorBase
namespace Go.Proofs.YtcheafeaioflmaaDoor
open Go Go.RowKit
set_option linter.unusedSimpArgs false
set_option linter.unusedVariables false

section
variable {w w' : World} {b g : Nat} {xs : List Int}
end

theorem Keep.one (w : World) (g i : Nat) (u : Value) : Keep (· = g) w (w.setCell ⟨g, i, none⟩ u) := (Keep.refl (· = g) w).setCell (p := ⟨g, i, none⟩) (Or.inl rfl) u

/-- what a load answers -/
def ld (xs : List Int) (i : Int) : Int := if 0 ≤ i ∧ i < xs.length then wd xs i.toNat else 0
/-- what a store leaves -/
def st (xs : List Int) (i x : Int) : List Int := if 0 ≤ i ∧ i < xs.length then xs.set i.toNat x else xs
theorem st_len (xs : List Int) (i x : Int) : (st xs i x).length = xs.length := by unfold st; split <;> simp

/-! ### atomic numbers -/
/-! ### the arena's calls -/
/-- is there a place, and is x there? -/
def hit (xs : List Int) (i x : Int) : Bool := decide (0 ≤ i) && decide (i < xs.length) && decide (wd xs i.toNat = x)
/-- what a cas leaves -/
def swap (xs : List Int) (i x y : Int) : List Int := if hit xs i x = true then st xs i y else xs
/-! ### a new arena -/
/-- the first k words, and noughts behind -/
def mid (xs : List Int) (k : Nat) : List Int := xs.take k ++ List.replicate (xs.length - k) 0
theorem mid_len (xs : List Int) (k : Nat) (h : k ≤ xs.length) : (mid xs k).length = xs.length := by simp [mid]; omega
theorem mid_zero (xs : List Int) : mid xs 0 = List.replicate xs.length 0 := by simp [mid]
theorem mid_all (xs : List Int) : mid xs xs.length = xs := by simp [mid]
theorem mid_succ (xs : List Int) (k : Nat) (h : k < xs.length) : (mid xs k).set k (wd xs k) = mid xs (k + 1) := by
  unfold mid wd
  rw [List.set_append, if_neg (by simp; omega)]
  have e : k - (xs.take k).length = 0 := by simp; omega
  rw [e, show xs.length - k = (xs.length - (k+1)) + 1 by omega, List.replicate_succ, List.set_cons_zero, List.take_succ_eq_append_getElem h]
  have e2 : xs.getD k 0 = xs[k] := by simp [h]
  rw [e2, List.append_assoc]
  rfl
end Go.Proofs.YtcheafeaioflmaaDoor
