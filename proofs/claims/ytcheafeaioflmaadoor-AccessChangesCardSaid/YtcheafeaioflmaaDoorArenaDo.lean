/- The contract of an arena's Do: what an access answers, and leaves. -/
import Derived.Test.YtcheafeaioflmaaDoorArenaMore
import Derived.Test.YtcheafeaioflmaaDoorAcc
namespace Go.Proofs.YtcheafeaioflmaaDoor
open Go Go.RowKit
set_option linter.unusedSimpArgs false
set_option linter.unusedVariables false

/-- whole words -/
def Wf (xs : List Int) : Prop := ∀ j, j < xs.length → 0 ≤ wd xs j ∧ wd xs j < 18446744073709551616
theorem u64_back (x y : Int) (h0 : 0 ≤ x) (h1 : x < 18446744073709551616) : IntKind.u64.wrap (IntKind.u64.wrap (x + y) - y) = x := by
  simp only [IntKind.wrap_u64]
  omega
theorem Wf.back {xs : List Int} (h : Wf xs) (y : Int) (i : Int) (h0 : 0 ≤ i) (h1 : i < xs.length) : IntKind.u64.wrap (IntKind.u64.wrap (wd xs i.toNat + y) - y) = wd xs i.toNat := by
  have := h i.toNat (by omega)
  exact u64_back _ _ this.1 this.2
/-- is there a place, and is it an access? -/
def Acc.fits (a : Acc) (xs : List Int) : Bool := decide (0 ≤ a.at_ ∧ a.at_ < xs.length ∧ 1 ≤ a.kind ∧ a.kind ≤ 4)
def Acc.res (a : Acc) (xs : List Int) : Acc := if a.fits xs = true then { a with old := ld xs a.at_ } else Acc.zero
def Acc.left (a : Acc) (xs : List Int) : List Int :=
  if a.kind = 2 then st xs a.at_ a.x else if a.kind = 3 then swap xs a.at_ a.x a.y else if a.kind = 4 then st xs a.at_ (IntKind.u64.wrap (ld xs a.at_ + a.x)) else xs
end Go.Proofs.YtcheafeaioflmaaDoor
