/- Arguments that came in, opened: configurations. -/
import Derived.Test.YtipoklnoknkfhaaDoorConfig
namespace Go.Proofs.YtipoklnoknkfhaaDoor
open Go Go.RowKit Go.WideShapes Go.ChangeShapes

set_option maxRecDepth 100000 in
/-- a configuration that came in -/
theorem open_cfg {H : Type} {enc : TypeId × Value → H} {W : World} {v : Value} {d : DataW H} {p : List MemPlace} (hv : Value.okWide Tryd.prog W .any 0 23 v) (h : DataW.Trod enc Tryd.prog W 0 (fun _ => true) true 23 v d p) :
    ∃ c : Cfg, v = c.v ∧ (Lit.int .i64 c.cells).wf = true ∧ (Lit.int .i64 c.muts).wf = true ∧ (Lit.int .i64 c.regs).wf = true ∧ (Lit.int .i64 c.globs).wf = true := by
  obtain ⟨c0, c1, c2, c3, y0, y1, y2, y3, m, rfl, rfl, rfl, h0, h1, h2, h3⟩ := Joins.open_agg4 Tryd.underlying23 (by kernel_rfl) (by kernel_rfl) hv h
  obtain ⟨a0, e0, _, w0⟩ := DataW.trod_int Tryd.underlying3 h0
  obtain ⟨a1, e1, _, w1⟩ := DataW.trod_int Tryd.underlying3 h1
  obtain ⟨a2, e2, _, w2⟩ := DataW.trod_int Tryd.underlying3 h2
  obtain ⟨a3, e3, _, w3⟩ := DataW.trod_int Tryd.underlying3 h3
  simp at e0 e1 e2 e3
  subst e0 e1 e2 e3
  exact ⟨⟨a0, a1, a2, a3⟩, rfl, w0, w1, w2, w3⟩
end Go.Proofs.YtipoklnoknkfhaaDoor
