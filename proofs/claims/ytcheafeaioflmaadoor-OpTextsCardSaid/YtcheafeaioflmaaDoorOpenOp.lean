/- Arguments that came in, opened: operations. -/
import Derived.Test.YtcheafeaioflmaaDoorOp
import Derived.Test.YtcheafeaioflmaaDoorOpText
import Derived.ChangeMaps5
import Derived.Deep.DeepHandedRow
namespace Go.Proofs.YtcheafeaioflmaaDoor
open Go Go.RowKit Go.WideShapes Go.ChangeShapes

set_option maxRecDepth 100000 in
/-- an operation that came in -/
theorem open_op {H : Type} {enc : TypeId × Value → H} {W : World} {v : Value} {d : DataW H} {p : List MemPlace} (hv : Value.okWide Tryd.prog W .any 0 56 v) (h : DataW.Trod enc Tryd.prog W 0 (fun _ => true) true 56 v d p) :
    ∃ c : Opr, v = c.v ∧ c.fits := by
  obtain ⟨c0, c1, c2, c3, y0, y1, y2, y3, m, rfl, rfl, rfl, h0, h1, h2, h3⟩ := Joins.open_agg4 Tryd.underlying56 (by kernel_rfl) (by kernel_rfl) hv h
  obtain ⟨a0, e0, _, w0⟩ := DataW.trod_int Tryd.underlying3 h0
  obtain ⟨a1, e1, _, w1⟩ := DataW.trod_int Tryd.underlying3 h1
  obtain ⟨a2, e2, _, w2⟩ := DataW.trod_int Tryd.underlying3 h2
  obtain ⟨a3, e3, _, w3⟩ := DataW.trod_int Tryd.underlying3 h3
  simp at e0 e1 e2 e3
  subst e0 e1 e2 e3
  exact ⟨⟨a0, a1, a2, a3⟩, rfl, bounds_i64 w0, bounds_i64 w1, bounds_i64 w2, bounds_i64 w3⟩
end Go.Proofs.YtcheafeaioflmaaDoor
