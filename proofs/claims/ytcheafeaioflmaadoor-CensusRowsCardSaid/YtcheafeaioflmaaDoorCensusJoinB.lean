/- The walk of census.Join. -/
import Derived.Test.YtcheafeaioflmaaDoorCensusJoin
namespace Go.Proofs.YtcheafeaioflmaaDoor
open Go Go.RowKit Go.Op
set_option linter.unusedSimpArgs false
set_option linter.unusedVariables false

theorem five_at (S f : Nat → Int) (i : Nat) (hi : i < 24) : (if i = 23 then S 23 + f 23 else if i = 22 then S 22 + f 22 else if i = 21 then S 21 + f 21 else if i = 20 then S 20 + f 20 else if i = 19 then S 19 + f 19 else if i < 12 + 7 then S i + f i else S i) = S i + f i := by
  by_cases b3 : i = 23
  · subst b3; simp
  rw [if_neg b3]
  by_cases b2 : i = 22
  · subst b2; simp
  rw [if_neg b2]
  by_cases b1 : i = 21
  · subst b1; simp
  rw [if_neg b1]
  by_cases b0 : i = 20
  · subst b0; simp
  rw [if_neg b0]
  by_cases b9 : i = 19
  · subst b9; simp
  rw [if_neg b9, if_pos (by omega)]
theorem range_12 {w : World} {b : Nat} {f : Nat → Int} (h : CAt w b f) : w.rangeAt b 0 ((cl f).take 12) := fun j v hv => by
  have hj : j < 12 := by have := (List.getElem?_eq_some_iff.1 hv).1; rw [List.length_take, cl_len] at this; omega
  rw [List.getElem?_take_of_lt hj, cl_at f j (by omega)] at hv
  cases hv
  rw [Nat.zero_add]
  exact h.cell j (by omega)
theorem range_7 {w : World} {b : Nat} {f : Nat → Int} (h : CAt w b f) : w.rangeAt b 12 (((cl f).drop 12).take 7) := fun j v hv => by
  have hj : j < 7 := by have := (List.getElem?_eq_some_iff.1 hv).1; rw [List.length_take, List.length_drop, cl_len] at this; omega
  rw [List.getElem?_take_of_lt hj, List.getElem?_drop, cl_at f (12 + j) (by omega)] at hv
  cases hv
  exact h.cell (12 + j) (by omega)
end Go.Proofs.YtcheafeaioflmaaDoor
