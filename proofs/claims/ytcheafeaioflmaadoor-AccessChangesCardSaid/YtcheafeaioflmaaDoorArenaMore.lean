/- More contracts of package arena: Len, All, Do. -/
import Derived.Test.YtcheafeaioflmaaDoorArena
import Derived.Test.YtcheafeaioflmaaDoorRef01
namespace Go.Proofs.YtcheafeaioflmaaDoor
open Go Go.RowKit
set_option linter.unusedSimpArgs false
set_option linter.unusedVariables false

theorem ld_at (xs : List Int) (k : Nat) (h : k < xs.length) : ld xs (k : Int) = wd xs k := by
  unfold ld
  rw [if_pos ⟨by omega, by omega⟩]
  rfl
theorem take_wd (xs : List Int) (k : Nat) (h : k < xs.length) : xs.take (k + 1) = xs.take k ++ [wd xs k] := by
  rw [List.take_succ_eq_append_getElem h, wd_eq xs k h]

end Go.Proofs.YtcheafeaioflmaaDoor
