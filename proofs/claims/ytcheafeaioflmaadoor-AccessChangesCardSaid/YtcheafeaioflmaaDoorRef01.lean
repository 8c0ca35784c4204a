/- The contracts of the reference's lists of words: Copy and Same. -/
import Derived.Test.YtcheafeaioflmaaDoorWords
namespace Go.Proofs.YtcheafeaioflmaaDoor
open Go Go.RowKit
set_option linter.unusedSimpArgs false
set_option linter.unusedVariables false

theorem info_word : (Tryd.prog.info? 31).map (fun i => (i.zero, i.size, i.bytes)) = some (some (.int .u64 0), 1, 8) := by kernel_rfl

/-- are two lists the same, up to the first k? -/
def sameB (xs ys : List Int) : Bool := decide (xs = ys)
theorem wd_eq (xs : List Int) (i : Nat) (h : i < xs.length) : wd xs i = xs[i] := by simp [wd, h]
theorem same_of (xs ys : List Int) (hl : xs.length = ys.length) (h : ∀ i, i < xs.length → wd xs i = wd ys i) : sameB xs ys = true := by
  unfold sameB
  refine decide_eq_true (List.ext_getElem hl fun i h1 h2 => ?_)
  rw [← wd_eq xs i h1, ← wd_eq ys i h2]
  exact h i h1
theorem same_not (xs ys : List Int) (i : Nat) (h : ¬ wd xs i = wd ys i) : sameB xs ys = false := by
  unfold sameB
  refine decide_eq_false fun e => h (by rw [e])

end Go.Proofs.YtcheafeaioflmaaDoor
