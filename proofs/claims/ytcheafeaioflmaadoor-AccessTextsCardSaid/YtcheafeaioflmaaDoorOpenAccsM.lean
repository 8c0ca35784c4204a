/- Accesses that came in, opened: one, and a slice of them. -/
import Derived.Test.YtcheafeaioflmaaDoorBase
import Derived.Deep.Slices
import Derived.Deep.Fields
import Derived.ChangeSame
import Derived.Test.YtcheafeaioflmaaDoorAccPure
import Derived.ChangeMaps5
import Derived.Deep.DeepHandedRow
import Derived.Test.YtcheafeaioflmaaDoorAccsRow
namespace Go.Proofs.YtcheafeaioflmaaDoor
open Go Go.RowKit Go.ChangeShapes Go.WideShapes Go.Deep

section
variable {H : Type} {enc : TypeId × Value → H} {P : Program} {w : World} {base : Nat} {spare : Nat → Bool} {held : Bool}
theorem open_slice_fields {t e : TypeId} {fs : Array Field} {fuel : Nat} {cs : List Value} {x : DataW H × List MemPlace} (ht : P.underlying t = some (.slice e)) (he : P.underlying e = some (.struct fs))
    (hone : oneCellFields P fs = true) (hC : P.cellsOf e = fs.size) (h : DataW.trod enc P w base spare held fuel t cs = some x) :
    (cs = [.slice none 0 0] ∧ x = (.nil, [])) ∨
    ∃ (a : Addr) (len cap m : Nat) (D : Nat → DataW H) (Pl : Nat → List MemPlace), cs = [.slice (some a) len cap] ∧ base ≤ a.block ∧ len ≤ cap ∧ cap ≤ maxLen ∧ m = (if spare a.block then cap else len) ∧
      x = (.slice ((List.range len).map D) ((List.range (m - len)).map fun j => D (len + j)), MemPlace.row a (m * fs.size) ++ (List.range m).flatMap Pl) ∧
      ∀ i, i < m → ∃ (ys : List (DataW H × List MemPlace)) (n : Nat), D i = .agg (ys.map (·.1)) ∧ Pl i = ys.flatMap (·.2) ∧ ys.length = fs.size ∧
        ∀ (j : Nat) (f : Field), fs[j]? = some f → ∃ (v : Value) (y : DataW H × List MemPlace), w.cell? (a.add (i * fs.size + j)) = some v ∧ ys[j]? = some y ∧ DataW.trod enc P w base spare held n f.type [v] = some y := by
  rcases open_slice ht h with h0 | ⟨a, len, cap, m, n, D, Pl, hcs, hb, hl, hm, hmm, hx, hi⟩
  · exact .inl h0
  · refine .inr ⟨a, len, cap, m, D, Pl, hcs, hb, hl, hm, hmm, by rw [hC] at hx; exact hx, fun i him => ?_⟩
    obtain ⟨cs', hc, ht'⟩ := hi i him
    rw [hC] at hc
    obtain ⟨ys, n', hn', hy, hlen, hyl, hf⟩ := DataW.trod_struct he ht'
    obtain ⟨_, hcl, hat⟩ := World.cells?_some hc
    simp only [Prod.mk.injEq] at hy
    refine ⟨ys, n', hy.1, hy.2, hyl, fun j f hj => ?_⟩
    obtain ⟨ho, hk⟩ := hone_of hone j f hj
    have hjl : j < fs.size := (Array.getElem?_eq_some_iff.1 hj).1
    have hcell := hat j hjl
    have hv : cs'[j]? = some (cs'[j]'(by omega)) := List.getElem?_eq_getElem (by omega)
    have h1 := hf j f hj
    rw [ho, hk] at h1
    have hone' : (cs'.drop j).take 1 = [cs'[j]'(by omega)] := by
      rw [List.drop_eq_getElem_cons (by omega)]
      rfl
    rw [hone'] at h1
    have hys : ys[j]? = some (ys[j]'(by omega)) := List.getElem?_eq_getElem (by omega)
    refine ⟨_, _, ?_, hys, h1.trans hys⟩
    rw [← Go.Deep.add_add, hcell, hv]
end

theorem open_rows {H : Type} {enc : TypeId × Value → H} {P : Program} {W : World} {t e : TypeId} {fs : Array Field} {v : Value} {d : DataW H} {p : List MemPlace} (ht : P.underlying t = some (.slice e)) (he : P.underlying e = some (.struct fs))
    (hone : oneCellFields P fs = true) (hC : P.cellsOf e = fs.size) (hpos : 0 < fs.size) (hv : Value.okWide P W .any 0 t v) (h : DataW.Trod enc P W 0 (fun _ => true) true t v d p) :
    ∃ (A : Option Addr) (n c : Nat), v = .slice A n c ∧ n ≤ maxLen ∧ (0 < n → ∃ ad, A = some ad ∧ ad.block < W.heap.size ∧ ∀ i, i < n → ∀ (j : Nat) (f : Field), fs[j]? = some f → ∃ (u : Value) (y : DataW H × List MemPlace) (m : Nat), W.cell? (ad.add (i * fs.size + j)) = some u ∧ DataW.trod enc P W 0 (fun _ => true) true m f.type [u] = some y) := by
  obtain ⟨a0, len, cap, rfl⟩ := okWide_slice ht hv
  obtain ⟨fuel, hf⟩ := h
  rcases open_slice_fields ht he hone hC hf with ⟨hcs, hx⟩ | ⟨a, len', cap', m, D, Pl, hcs, _, hl, hm, hmm, hx, hi⟩
  · simp [Value.cells] at hcs
    obtain ⟨rfl, rfl, rfl⟩ := hcs
    exact ⟨none, 0, 0, rfl, by simp, fun h => absurd h (by simp)⟩
  · simp [Value.cells] at hcs
    obtain ⟨rfl, rfl, rfl⟩ := hcs
    simp at hmm
    refine ⟨some a, len, cap, rfl, by omega, fun hn => ⟨a, rfl, ?_, fun i hin j f hj => ?_⟩⟩
    · obtain ⟨ys, n, _, _, _, hcell⟩ := hi 0 (by omega)
      obtain ⟨v, y, hc, _, _⟩ := hcell 0 fs[0] (by simp [hpos])
      have := World.block_lt_of_cell? W _ hc
      rwa [block_of_add] at this
    · obtain ⟨ys, n, _, _, _, hcell⟩ := hi i (by omega)
      obtain ⟨v, y, hc, _, ht⟩ := hcell j f hj
      exact ⟨v, y, n, hc, ht⟩
end Go.Proofs.YtcheafeaioflmaaDoor
namespace Go.Proofs.YtcheafeaioflmaaDoor
open Go Go.RowKit Go.WideShapes Go.ChangeShapes Go.Joins Go.Deep Go.WideElems Go.Maps

theorem array_of5 {α : Type} {cs : Array α} (h : cs.size = 5) : ∃ c0 c1 c2 c3 c4, cs = #[c0, c1, c2, c3, c4] := by
  obtain ⟨l⟩ := cs
  match l, h with
  | [c0, c1, c2, c3, c4], _ => exact ⟨c0, c1, c2, c3, c4, rfl⟩
set_option maxRecDepth 100000 in
theorem open_five {H : Type} {enc : TypeId × Value → H} {w : World} {t : TypeId} {f0 f1 f2 f3 f4 : Field} {v : Value} {d : DataW H} {p : List MemPlace} (hs : Tryd.prog.underlying t = some (.struct #[f0, f1, f2, f3, f4])) (hone : oneCellFields Tryd.prog #[f0, f1, f2, f3, f4] = true) (hC : Tryd.prog.cellsOf t = 5)
    (hv : Value.okWide Tryd.prog w .any 0 t v) (h : DataW.Trod enc Tryd.prog w 0 (fun _ => true) true t v d p) :
    ∃ (v0 v1 v2 v3 v4 : Value) (y0 y1 y2 y3 y4 : DataW H × List MemPlace) (n : Nat), v = .agg #[v0, v1, v2, v3, v4] ∧
      DataW.trod enc Tryd.prog w 0 (fun _ => true) true n f0.type [v0] = some y0 ∧ DataW.trod enc Tryd.prog w 0 (fun _ => true) true n f1.type [v1] = some y1 ∧ DataW.trod enc Tryd.prog w 0 (fun _ => true) true n f2.type [v2] = some y2 ∧ DataW.trod enc Tryd.prog w 0 (fun _ => true) true n f3.type [v3] = some y3 ∧ DataW.trod enc Tryd.prog w 0 (fun _ => true) true n f4.type [v4] = some y4 := by
  obtain ⟨cs, rfl, hsz⟩ := okWide_struct hs hv
  obtain ⟨c0, c1, c2, c3, c4, rfl⟩ := array_of5 (hsz.trans hC)
  obtain ⟨fuel, hf⟩ := h
  obtain ⟨xs, n, _, _, hl, hlen, hf⟩ := DataW.trod_struct hs hf
  obtain ⟨o0, k0⟩ := hone_of hone 0 f0 rfl
  obtain ⟨o1, k1⟩ := hone_of hone 1 f1 rfl
  obtain ⟨o2, k2⟩ := hone_of hone 2 f2 rfl
  obtain ⟨o3, k3⟩ := hone_of hone 3 f3 rfl
  obtain ⟨o4, k4⟩ := hone_of hone 4 f4 rfl
  match xs, hlen with
  | [y0, y1, y2, y3, y4], _ =>
    have h0 := hf 0 f0 rfl
    have h1 := hf 1 f1 rfl
    have h2 := hf 2 f2 rfl
    have h3 := hf 3 f3 rfl
    have h4 := hf 4 f4 rfl
    exact ⟨c0, c1, c2, c3, c4, y0, y1, y2, y3, y4, n, rfl, by simpa [Value.cells, o0, k0] using h0, by simpa [Value.cells, o1, k1] using h1, by simpa [Value.cells, o2, k2] using h2, by simpa [Value.cells, o3, k3] using h3, by simpa [Value.cells, o4, k4] using h4⟩
set_option maxRecDepth 100000 in
theorem open_acc {H : Type} {enc : TypeId × Value → H} {W : World} {v : Value} {d : DataW H} {p : List MemPlace} (hv : Value.okWide Tryd.prog W .any 0 33 v) (h : DataW.Trod enc Tryd.prog W 0 (fun _ => true) true 33 v d p) :
    ∃ c : Acc, v = c.v ∧ c.Fits := by
  obtain ⟨c0, c1, c2, c3, c4, y0, y1, y2, y3, y4, m, rfl, h0, h1, h2, h3, h4⟩ := open_five Tryd.underlying33 (by kernel_rfl) (by kernel_rfl) hv h
  obtain ⟨a0, e0, _, w0⟩ := DataW.trod_int Tryd.underlying3 h0
  obtain ⟨a1, e1, _, w1⟩ := DataW.trod_int Tryd.underlying3 h1
  obtain ⟨a2, e2, _, w2⟩ := DataW.trod_int Tryd.underlying31 h2
  obtain ⟨a3, e3, _, w3⟩ := DataW.trod_int Tryd.underlying31 h3
  obtain ⟨a4, e4, _, w4⟩ := DataW.trod_int Tryd.underlying31 h4
  simp at e0 e1 e2 e3 e4
  subst e0 e1 e2 e3 e4
  exact ⟨⟨a0, a1, a2, a3, a4⟩, rfl, bounds_i64 w0, bounds_i64 w1, by have := bounds_u64 w2; dsimp only; omega, by have := bounds_u64 w3; dsimp only; omega, by have := bounds_u64 w4; dsimp only; omega⟩
end Go.Proofs.YtcheafeaioflmaaDoor
namespace Go.Proofs.YtcheafeaioflmaaDoor
open Go Go.RowKit Go.ChangeShapes Go.WideShapes Go.Deep

theorem choose_ltA {α : Type} (h0 : Nonempty α) {n : Nat} {p : Nat → α → Prop} (h : ∀ i, i < n → ∃ a, p i a) : ∃ f : Nat → α, ∀ i, i < n → p i (f i) := by
  refine ⟨fun i => if hi : i < n then Classical.choose (h i hi) else Classical.choice h0, fun i hi => ?_⟩
  simp only [hi, dite_true]
  exact Classical.choose_spec (h i hi)
set_option maxRecDepth 100000 in
theorem open_accs {H : Type} {enc : TypeId × Value → H} {W : World} {v : Value} {d : DataW H} {p : List MemPlace} (hv : Value.okWide Tryd.prog W .any 0 24 v) (h : DataW.Trod enc Tryd.prog W 0 (fun _ => true) true 24 v d p) :
    ∃ (A : Option Addr) (l : List Acc) (c : Nat), v = .slice A l.length c ∧ Accs W W.heap.size A l ∧ ∀ a ∈ l, a.Fits := by
  obtain ⟨A, n, c, rfl, hn, hc⟩ := open_rows Tryd.underlying24 Tryd.underlying33 (by kernel_rfl) (by kernel_rfl) (by decide) hv h
  by_cases h0 : n = 0
  · subst h0
    exact ⟨A, [], c, rfl, ⟨by simp, fun h => absurd h (by simp)⟩, fun a ha => by cases ha⟩
  obtain ⟨ad, rfl, hB, hc⟩ := hc (by omega)
  have key : ∀ i, i < n → ∃ a : Acc, (W.cell? (ad.add (i * 5)) = some (.int .i64 a.kind) ∧ W.cell? (ad.add (i * 5 + 1)) = some (.int .i64 a.at_) ∧ W.cell? (ad.add (i * 5 + 2)) = some (.int .u64 a.x) ∧ W.cell? (ad.add (i * 5 + 3)) = some (.int .u64 a.y) ∧ W.cell? (ad.add (i * 5 + 4)) = some (.int .u64 a.old)) ∧ a.Fits := by
    intro i hi
    obtain ⟨u0, y0, m0, e0, t0⟩ := hc i hi 0 _ rfl
    obtain ⟨u1, y1, m1, e1, t1⟩ := hc i hi 1 _ rfl
    obtain ⟨u2, y2, m2, e2, t2⟩ := hc i hi 2 _ rfl
    obtain ⟨u3, y3, m3, e3, t3⟩ := hc i hi 3 _ rfl
    obtain ⟨u4, y4, m4, e4, t4⟩ := hc i hi 4 _ rfl
    obtain ⟨n0, q0, _, w0⟩ := DataW.trod_int Tryd.underlying3 t0
    obtain ⟨n1, q1, _, w1⟩ := DataW.trod_int Tryd.underlying3 t1
    obtain ⟨n2, q2, _, w2⟩ := DataW.trod_int Tryd.underlying31 t2
    obtain ⟨n3, q3, _, w3⟩ := DataW.trod_int Tryd.underlying31 t3
    obtain ⟨n4, q4, _, w4⟩ := DataW.trod_int Tryd.underlying31 t4
    simp at q0 q1 q2 q3 q4
    subst q0 q1 q2 q3 q4
    exact ⟨⟨n0, n1, n2, n3, n4⟩, ⟨by simpa using e0, e1, e2, e3, e4⟩, bounds_i64 w0, bounds_i64 w1, by have := bounds_u64 w2; dsimp only; omega, by have := bounds_u64 w3; dsimp only; omega, by have := bounds_u64 w4; dsimp only; omega⟩
  obtain ⟨f, hf⟩ := @choose_ltA Acc ⟨Acc.zero⟩ n _ key
  have hlen : ((List.range n).map f).length = n := by simp
  refine ⟨some ad, (List.range n).map f, c, by rw [hlen], ⟨by rw [hlen]; exact hn, fun _ => ⟨ad, rfl, hB, fun j hj => ?_⟩⟩, fun a ha => ?_⟩
  · rw [hlen] at hj
    have e : ((List.range n).map f)[j] = f j := by simp
    obtain ⟨⟨c0, c1, c2, c3, c4⟩, _⟩ := hf j hj
    have sp : ∀ k, k ≠ 0 → ad.add (j * 5 + k) = ⟨(ad.add (j * 5)).block, (ad.add (j * 5)).off + k, none⟩ := fun k hk => by
      rw [← add_of_add]
      generalize ad.add (j * 5) = q
      unfold Addr.add
      rw [if_neg hk]
    rw [e, ← sp 1 (by omega), ← sp 2 (by omega), ← sp 3 (by omega), ← sp 4 (by omega)]
    exact ⟨c0, c1, c2, c3, c4⟩
  · obtain ⟨i, hi, rfl⟩ := List.mem_map.1 ha
    exact (hf i (List.mem_range.1 hi)).2
end Go.Proofs.YtcheafeaioflmaaDoor
