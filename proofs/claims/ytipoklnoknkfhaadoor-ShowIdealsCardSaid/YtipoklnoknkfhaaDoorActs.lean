/- Slices of operations of mutators, as the laws on ideal stores take them: opened. -/
import Derived.Test.YtipoklnoknkfhaaDoorOp
import Derived.Deep.Slices
import Derived.Deep.Fields
import Derived.ChangeSame
namespace Go.Proofs.YtipoklnoknkfhaaDoor
open Go Go.RowKit Go.ChangeShapes Go.WideShapes Go.Deep
set_option linter.unusedSimpArgs false
set_option linter.unusedVariables false

structure Actn where
  m : Int
  x : Opr
  full : Bool
def Actn.fits (a : Actn) : Prop := (-9223372036854775808 ≤ a.m ∧ a.m ≤ 9223372036854775807) ∧ (-9223372036854775808 ≤ a.x.kind ∧ a.x.kind ≤ 9223372036854775807) ∧ (-9223372036854775808 ≤ a.x.a ∧ a.x.a ≤ 9223372036854775807) ∧ (-9223372036854775808 ≤ a.x.b ∧ a.x.b ≤ 9223372036854775807) ∧ (-9223372036854775808 ≤ a.x.c ∧ a.x.c ≤ 9223372036854775807)
def ActCells (w : World) (q : Addr) (a : Actn) : Prop :=
  w.cell? q = some (.int .i64 a.m) ∧ w.cell? ⟨q.block, q.off + 1, none⟩ = some (.int .i64 a.x.kind) ∧ w.cell? ⟨q.block, q.off + 2, none⟩ = some (.int .i64 a.x.a) ∧ w.cell? ⟨q.block, q.off + 3, none⟩ = some (.int .i64 a.x.b) ∧ w.cell? ⟨q.block, q.off + 4, none⟩ = some (.int .i64 a.x.c) ∧ w.cell? ⟨q.block, q.off + 5, none⟩ = some (.bool a.full)
structure Acts (w : World) (B : Nat) (A : Option Addr) (l : List Actn) : Prop where
  len : l.length ≤ maxLen
  at_ : 0 < l.length → ∃ ad, A = some ad ∧ ad.block < B ∧ ∀ j a, l[j]? = some a → ActCells w (ad.add (j * 6)) a
theorem Acts.cell {w w' : World} {B : Nat} {A : Option Addr} {l : List Actn} (h : Acts w B A l) (hb : Below B w w') {j : Nat} {a : Actn} (hj : l[j]? = some a) :
    ∃ ad, A = some ad ∧ ad.block < B ∧ ActCells w' (ad.add (j * 6)) a := by
  obtain ⟨ad, e, hB, hc⟩ := h.at_ (by have := (List.getElem?_eq_some_iff.1 hj).1; omega)
  obtain ⟨c0, c1, c2, c3, c4, c5⟩ := hc j a hj
  have hbl : (ad.add (j * 6)).block < B := by rw [block_of_add]; exact hB
  exact ⟨ad, e, hB, (hb.cell hbl).trans c0, (hb.cell (p := ⟨_, _, none⟩) hbl).trans c1, (hb.cell (p := ⟨_, _, none⟩) hbl).trans c2, (hb.cell (p := ⟨_, _, none⟩) hbl).trans c3, (hb.cell (p := ⟨_, _, none⟩) hbl).trans c4, (hb.cell (p := ⟨_, _, none⟩) hbl).trans c5⟩

theorem choose_lt' {α : Type} (h0 : Nonempty α) {n : Nat} {p : Nat → α → Prop} (h : ∀ i, i < n → ∃ a, p i a) : ∃ f : Nat → α, ∀ i, i < n → p i (f i) := by
  refine ⟨fun i => if hi : i < n then Classical.choose (h i hi) else Classical.choice h0, fun i hi => ?_⟩
  simp only [hi, dite_true]
  exact Classical.choose_spec (h i hi)

set_option maxRecDepth 100000 in
theorem open_acts {H : Type} {enc : TypeId × Value → H} {W : World} {v : Value} {d : DataW H} {p : List MemPlace} (hv : Value.okWide Tryd.prog W .any 0 48 v) (h : DataW.Trod enc Tryd.prog W 0 (fun _ => true) true 48 v d p) :
    ∃ (A : Option Addr) (l : List Actn) (c : Nat), v = .slice A l.length c ∧ Acts W W.heap.size A l ∧ ∀ a ∈ l, a.fits := by
  obtain ⟨a0, len, cap, rfl⟩ := okWide_slice Tryd.underlying48 hv
  obtain ⟨fuel, hf⟩ := h
  rcases open_slice Tryd.underlying48 hf with ⟨hcs, hx⟩ | ⟨ad, len', cap', m, n, D, Pl, hcs, _, hl, hm, hmm, hx, hi⟩
  · simp [Value.cells] at hcs
    obtain ⟨rfl, rfl, rfl⟩ := hcs
    exact ⟨none, [], 0, rfl, ⟨by simp, fun h => absurd h (by simp)⟩, fun a ha => by cases ha⟩
  simp [Value.cells] at hcs
  obtain ⟨rfl, rfl, rfl⟩ := hcs
  simp at hmm
  have hC : Tryd.prog.cellsOf 60 = 6 := by kernel_rfl
  have hC1 : Tryd.prog.cellsOf 3 = 1 := by kernel_rfl
  have hC4 : Tryd.prog.cellsOf 58 = 4 := by kernel_rfl
  have hCb : Tryd.prog.cellsOf 4 = 1 := by kernel_rfl
  have key : ∀ i, i < len → ∃ a : Actn, (∀ k : Nat, k < 6 → W.cell? ((ad.add (i * 6)).add k) = [Value.int .i64 a.m, .int .i64 a.x.kind, .int .i64 a.x.a, .int .i64 a.x.b, .int .i64 a.x.c, .bool a.full][k]?) ∧ a.fits := by
    intro i hin
    obtain ⟨cs', hc, ht'⟩ := hi i (by omega)
    rw [hC] at hc
    obtain ⟨_, hcl, hat⟩ := World.cells?_some hc
    obtain ⟨ys, n', hn', hy, hlen, hyl, hff⟩ := DataW.trod_struct Tryd.underlying60 ht'
    match cs', hcl with
    | [v0, v1, v2, v3, v4, v5], _ =>
      have h0 := hff 0 _ (by simp only [List.getElem?_toArray, List.getElem?_cons_succ, List.getElem?_cons_zero]; rfl)
      have h1 := hff 1 _ (by simp only [List.getElem?_toArray, List.getElem?_cons_succ, List.getElem?_cons_zero]; rfl)
      have h2 := hff 2 _ (by simp only [List.getElem?_toArray, List.getElem?_cons_succ, List.getElem?_cons_zero]; rfl)
      dsimp only at h0 h1 h2
      rw [hC1] at h0
      rw [hC4] at h1
      rw [hCb] at h2
      simp only [List.drop, List.take] at h0 h1 h2
      have hyl : ys.length = 3 := hyl
      rw [List.getElem?_eq_getElem (by omega)] at h0 h1 h2
      obtain ⟨n0, q0, _, w0⟩ := DataW.trod_int Tryd.underlying3 h0
      obtain ⟨bf, q5, _⟩ := DataW.trod_bool Tryd.underlying4 h2
      obtain ⟨zs, n2, _, _, _, hzl, hzf⟩ := DataW.trod_struct Tryd.underlying58 h1
      have g0 := hzf 0 _ (by simp only [List.getElem?_toArray, List.getElem?_cons_succ, List.getElem?_cons_zero]; rfl)
      have g1 := hzf 1 _ (by simp only [List.getElem?_toArray, List.getElem?_cons_succ, List.getElem?_cons_zero]; rfl)
      have g2 := hzf 2 _ (by simp only [List.getElem?_toArray, List.getElem?_cons_succ, List.getElem?_cons_zero]; rfl)
      have g3 := hzf 3 _ (by simp only [List.getElem?_toArray, List.getElem?_cons_succ, List.getElem?_cons_zero]; rfl)
      dsimp only at g0 g1 g2 g3
      rw [hC1] at g0 g1 g2 g3
      simp only [List.drop, List.take] at g0 g1 g2 g3
      have hzl : zs.length = 4 := hzl
      rw [List.getElem?_eq_getElem (by omega)] at g0 g1 g2 g3
      obtain ⟨m0, p0, _, u0⟩ := DataW.trod_int Tryd.underlying3 g0
      obtain ⟨m1, p1, _, u1⟩ := DataW.trod_int Tryd.underlying3 g1
      obtain ⟨m2, p2, _, u2⟩ := DataW.trod_int Tryd.underlying3 g2
      obtain ⟨m3, p3, _, u3⟩ := DataW.trod_int Tryd.underlying3 g3
      simp at q0 q5 p0 p1 p2 p3
      subst q0 q5 p0 p1 p2 p3
      exact ⟨⟨n0, ⟨m0, m1, m2, m3⟩, bf⟩, fun k hk => hat k hk, bounds_i64 w0, bounds_i64 u0, bounds_i64 u1, bounds_i64 u2, bounds_i64 u3⟩
  obtain ⟨f, hf⟩ := choose_lt' ⟨⟨0, ⟨0, 0, 0, 0⟩, false⟩⟩ key
  have hlen : ((List.range len).map f).length = len := by simp
  refine ⟨some ad, (List.range len).map f, cap, by rw [hlen], ⟨by rw [hlen]; omega, fun hpos => ⟨ad, rfl, ?_, fun j a hja => ?_⟩⟩, fun a ha => ?_⟩
  · rw [hlen] at hpos
    have h0 := (hf 0 hpos).1 0 (by omega)
    have := World.block_lt_of_cell? W _ h0
    rwa [block_of_add, block_of_add] at this
  · have hj : j < len := by
      have := (List.getElem?_eq_some_iff.1 hja).1
      rwa [hlen] at this
    obtain rfl : f j = a := by simpa [hj] using hja
    have hk := (hf j hj).1
    have sp : ∀ k, k ≠ 0 → (ad.add (j * 6)).add k = ⟨(ad.add (j * 6)).block, (ad.add (j * 6)).off + k, none⟩ := fun k hk => by
      generalize ad.add (j * 6) = q
      unfold Addr.add
      rw [if_neg hk]
    have z : (ad.add (j * 6)).add 0 = ad.add (j * 6) := by
      generalize ad.add (j * 6) = q
      unfold Addr.add
      rw [if_pos rfl]
    unfold ActCells
    rw [← sp 1 (by omega), ← sp 2 (by omega), ← sp 3 (by omega), ← sp 4 (by omega), ← sp 5 (by omega)]
    have a0 := hk 0 (by omega)
    rw [z] at a0
    exact ⟨a0, hk 1 (by omega), hk 2 (by omega), hk 3 (by omega), hk 4 (by omega), hk 5 (by omega)⟩
  · obtain ⟨i, hi, rfl⟩ := List.mem_map.1 ha
    exact (hf i (List.mem_range.1 hi)).2
end Go.Proofs.YtipoklnoknkfhaaDoor
