/- The contracts of the reference on places: At (of a spot that isn't one of those that are there once), Root; and the law's own 'at'. -/
import Derived.Test.YtdohmjdcgpkclaaDoorRef03
import Derived.Test.YtdohmjdcgpkclaaDoorPlace2
namespace Go.Proofs.YtdohmjdcgpkclaaDoor
open Go Go.RowKit
set_option linter.unusedSimpArgs false
set_option linter.unusedVariables false

theorem ret_int {k : IntKind} {a b : Int} (h : a = b) : Ending.returned (.int k a) = .returned (.int k b) := by rw [h]
def Cfg.refAt (c : Cfg) (k a b : Int) : Int :=
  if c.ok = true ∧ 0 ≤ a ∧ 0 ≤ b then
    if k = 1 then (if a < c.muts then 5 + a else -1)
    else if k = 2 then (if a < c.globs then 5 + c.muts + a else -1)
    else if k = 3 then (if a < c.muts ∧ b < c.regs then 5 + c.muts + c.globs + a * c.regs + b else -1)
    else (if a < c.cells then 5 + c.muts + c.globs + c.muts * c.regs + 3 * a + k - 4 else -1)
  else -1
abbrev spotObj (k a b : Int) : Obj := .cells #[.int .i64 k, .int .i64 a, .int .i64 b] 108

def Cfg.refRoot (c : Cfg) (j : Int) : Int := if 0 ≤ j ∧ j < c.roots then (if j = 0 then 0 else 4 + c.muts + j) else -1
end Go.Proofs.YtdohmjdcgpkclaaDoor
