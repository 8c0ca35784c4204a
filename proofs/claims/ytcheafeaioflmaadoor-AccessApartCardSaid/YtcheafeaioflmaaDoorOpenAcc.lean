/- Arguments that came in, opened: an access. -/
import Derived.Test.YtcheafeaioflmaaDoorAccPure
import Derived.ChangeMaps5
import Derived.Deep.DeepHandedRow
namespace Go.Proofs.YtcheafeaioflmaaDoor
open Go Go.RowKit Go.WideShapes Go.ChangeShapes Go.Joins Go.Deep Go.WideElems Go.Maps

theorem array_of5 {α : Type} {cs : Array α} (h : cs.size = 5) : ∃ c0 c1 c2 c3 c4, cs = #[c0, c1, c2, c3, c4] := by
  obtain ⟨l⟩ := cs
  match l, h with
  | [c0, c1, c2, c3, c4], _ => exact ⟨c0, c1, c2, c3, c4, rfl⟩
set_option maxRecDepth 100000 in
theorem open_five {H : Type} {enc : TypeId × Value → H} {w : World} {t : TypeId} {f0 f1 f2 f3 f4 : Field} {v : Value} {d : DataW H} {p : List MemPlace} (hs : Tryd.prog.underlying t = some (.struct #[f0, f1, f2, f3, f4])) (hone : oneCellFields Tryd.prog #[f0, f1, f2, f3, f4] = true) (hC : Tryd.prog.cellsOf t = 5)
    (hv : Value.okWide Tryd.prog w .any 0 t v) (h : DataW.Trod enc Tryd.prog w 0 (fun _ => true) true t v d p) :
    ∃ (v0 v1 v2 v3 v4 : Value) (y0 y1 y2 y3 y4 : DataW H × List MemPlace) (n : Nat), v = .agg #[v0, v1, v2, v3, v4] ∧
      DataW.trod enc Tryd.prog w 0 (fun _ => true) true n f0.type [v0] = some y0 ∧ DataW.trod enc Tryd.prog w 0 (fun _ => true) true n f1.type [v1] = some y1 ∧ DataW.trod enc Tryd.prog w 0 (fun _ => true) true n f2.type [v2] = some y2 ∧ DataW.trod enc Tryd.prog w 0 (fun _ => true) true n f3.type [v3] = some y3 ∧ DataW.trod enc Tryd.prog w 0 (fun _ => true) true n f4.type [v4] = some y4 := by
  obtain ⟨cs, rfl, hsz⟩ := okWide_struct hs hv
  obtain ⟨c0, c1, c2, c3, c4, rfl⟩ := array_of5 (hsz.trans hC)
  obtain ⟨fuel, hf⟩ := h
  obtain ⟨xs, n, _, _, hl, hlen, hf⟩ := DataW.trod_struct hs hf
  obtain ⟨o0, k0⟩ := hone_of hone 0 f0 rfl
  obtain ⟨o1, k1⟩ := hone_of hone 1 f1 rfl
  obtain ⟨o2, k2⟩ := hone_of hone 2 f2 rfl
  obtain ⟨o3, k3⟩ := hone_of hone 3 f3 rfl
  obtain ⟨o4, k4⟩ := hone_of hone 4 f4 rfl
  match xs, hlen with
  | [y0, y1, y2, y3, y4], _ =>
    have h0 := hf 0 f0 rfl
    have h1 := hf 1 f1 rfl
    have h2 := hf 2 f2 rfl
    have h3 := hf 3 f3 rfl
    have h4 := hf 4 f4 rfl
    exact ⟨c0, c1, c2, c3, c4, y0, y1, y2, y3, y4, n, rfl, by simpa [Value.cells, o0, k0] using h0, by simpa [Value.cells, o1, k1] using h1, by simpa [Value.cells, o2, k2] using h2, by simpa [Value.cells, o3, k3] using h3, by simpa [Value.cells, o4, k4] using h4⟩
set_option maxRecDepth 100000 in
theorem open_acc {H : Type} {enc : TypeId × Value → H} {W : World} {v : Value} {d : DataW H} {p : List MemPlace} (hv : Value.okWide Tryd.prog W .any 0 33 v) (h : DataW.Trod enc Tryd.prog W 0 (fun _ => true) true 33 v d p) :
    ∃ c : Acc, v = c.v ∧ c.Fits := by
  obtain ⟨c0, c1, c2, c3, c4, y0, y1, y2, y3, y4, m, rfl, h0, h1, h2, h3, h4⟩ := open_five Tryd.underlying33 (by kernel_rfl) (by kernel_rfl) hv h
  obtain ⟨a0, e0, _, w0⟩ := DataW.trod_int Tryd.underlying3 h0
  obtain ⟨a1, e1, _, w1⟩ := DataW.trod_int Tryd.underlying3 h1
  obtain ⟨a2, e2, _, w2⟩ := DataW.trod_int Tryd.underlying31 h2
  obtain ⟨a3, e3, _, w3⟩ := DataW.trod_int Tryd.underlying31 h3
  obtain ⟨a4, e4, _, w4⟩ := DataW.trod_int Tryd.underlying31 h4
  simp at e0 e1 e2 e3 e4
  subst e0 e1 e2 e3 e4
  exact ⟨⟨a0, a1, a2, a3, a4⟩, rfl, bounds_i64 w0, bounds_i64 w1, by have := bounds_u64 w2; dsimp only; omega, by have := bounds_u64 w3; dsimp only; omega, by have := bounds_u64 w4; dsimp only; omega⟩
end Go.Proofs.YtcheafeaioflmaaDoor
