/- Accesses told apart. -/
import Derived.Test.YtcheafeaioflmaaDoorAcc
namespace Go.Proofs.YtcheafeaioflmaaDoor
open Go Go.RowKit

theorem eql_acc (w : World) (x y : Acc) : (binOp .eql 33 x.v y.v).run Tryd.prog w = .ok (.bool (decide (x = y))) w := by
  obtain ⟨a, b, c, d, e⟩ := x
  obtain ⟨a', b', c', d', e'⟩ := y
  simp [go_sem, Acc.v]
  repeat' split
  all_goals simp_all
end Go.Proofs.YtcheafeaioflmaaDoor
