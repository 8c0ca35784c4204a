/- Slices of notes in memory; opened out of an argument. -/
import Derived.Test.YtcheafeaioflmaaDoorCensus
import Derived.Deep.Slices
import Derived.Deep.Fields
import Derived.ChangeSame
namespace Go.Proofs.YtcheafeaioflmaaDoor
open Go Go.RowKit Go.ChangeShapes Go.WideShapes Go.Deep
set_option linter.unusedSimpArgs false
set_option linter.unusedVariables false

def Nt.fits (t : Nt) : Prop := (-9223372036854775808 ≤ t.proc ∧ t.proc ≤ 9223372036854775807) ∧ (-9223372036854775808 ≤ t.what ∧ t.what ≤ 9223372036854775807) ∧ (-9223372036854775808 ≤ t.op.kind ∧ t.op.kind ≤ 9223372036854775807) ∧ (-9223372036854775808 ≤ t.op.a ∧ t.op.a ≤ 9223372036854775807) ∧ (-9223372036854775808 ≤ t.op.b ∧ t.op.b ≤ 9223372036854775807) ∧ (-9223372036854775808 ≤ t.op.c ∧ t.op.c ≤ 9223372036854775807) ∧ (-9223372036854775808 ≤ t.n ∧ t.n ≤ 9223372036854775807)
def NtCells (w : World) (q : Addr) (t : Nt) : Prop :=
  w.cell? q = some (.int .i64 t.proc) ∧ w.cell? ⟨q.block, q.off + 1, none⟩ = some (.int .i64 t.what) ∧ w.cell? ⟨q.block, q.off + 2, none⟩ = some (.int .i64 t.op.kind) ∧ w.cell? ⟨q.block, q.off + 3, none⟩ = some (.int .i64 t.op.a) ∧ w.cell? ⟨q.block, q.off + 4, none⟩ = some (.int .i64 t.op.b) ∧ w.cell? ⟨q.block, q.off + 5, none⟩ = some (.int .i64 t.op.c) ∧ w.cell? ⟨q.block, q.off + 6, none⟩ = some (.int .i64 t.n)
structure Nts (w : World) (B : Nat) (A : Option Addr) (l : List Nt) : Prop where
  len : l.length ≤ maxLen
  at_ : 0 < l.length → ∃ ad, A = some ad ∧ ad.block < B ∧ ∀ j t, l[j]? = some t → NtCells w (ad.add (j * 7)) t
theorem Nts.cell {w w' : World} {B : Nat} {A : Option Addr} {l : List Nt} (h : Nts w B A l) (hb : Below B w w') {j : Nat} {t : Nt} (hj : l[j]? = some t) :
    ∃ ad, A = some ad ∧ ad.block < B ∧ NtCells w' (ad.add (j * 7)) t := by
  obtain ⟨ad, e, hB, hc⟩ := h.at_ (by have := (List.getElem?_eq_some_iff.1 hj).1; omega)
  obtain ⟨c0, c1, c2, c3, c4, c5, c6⟩ := hc j t hj
  have hbl : (ad.add (j * 7)).block < B := by rw [block_of_add]; exact hB
  exact ⟨ad, e, hB, (hb.cell hbl).trans c0, (hb.cell (p := ⟨_, _, none⟩) hbl).trans c1, (hb.cell (p := ⟨_, _, none⟩) hbl).trans c2, (hb.cell (p := ⟨_, _, none⟩) hbl).trans c3, (hb.cell (p := ⟨_, _, none⟩) hbl).trans c4, (hb.cell (p := ⟨_, _, none⟩) hbl).trans c5, (hb.cell (p := ⟨_, _, none⟩) hbl).trans c6⟩
theorem Nts.below {w w' : World} {B : Nat} {A : Option Addr} {l : List Nt} (h : Nts w B A l) (hb : Below B w w') : Nts w' B A l where
  len := h.len
  at_ := fun hp => by
    obtain ⟨ad, e, hB, hc⟩ := h.at_ hp
    refine ⟨ad, e, hB, fun j t hj => ?_⟩
    obtain ⟨ad', e', _, hc'⟩ := h.cell hb hj
    obtain rfl : ad = ad' := by rw [e] at e'; injection e'
    exact hc'
theorem Nts.mono {w : World} {B B' : Nat} {A : Option Addr} {l : List Nt} (h : Nts w B A l) (hb : B ≤ B') : Nts w B' A l where
  len := h.len
  at_ := fun hp => by
    obtain ⟨ad, e, hB, hc⟩ := h.at_ hp
    exact ⟨ad, e, by omega, hc⟩
def nflat : List Nt → List Value
  | [] => []
  | t :: r => .int .i64 t.proc :: .int .i64 t.what :: .int .i64 t.op.kind :: .int .i64 t.op.a :: .int .i64 t.op.b :: .int .i64 t.op.c :: .int .i64 t.n :: nflat r
theorem nflat_len : ∀ l : List Nt, (nflat l).length = l.length * 7
  | [] => rfl
  | t :: r => by simp [nflat, nflat_len r]; omega
theorem nflat_append : ∀ l m : List Nt, nflat (l ++ m) = nflat l ++ nflat m
  | [], _ => rfl
  | t :: r, m => by simp [nflat, nflat_append r m]
theorem nflat_one : ∀ (l : List Nt), ∀ u ∈ nflat l, u.oneCell' = true
  | [], u, h => by cases h
  | t :: r, u, h => by
    simp [nflat] at h
    rcases h with rfl | rfl | rfl | rfl | rfl | rfl | rfl | h
    all_goals first | rfl | exact nflat_one r u h
theorem nflat_at : ∀ (l : List Nt) (i : Nat) (t : Nt), l[i]? = some t → (nflat l)[i * 7]? = some (.int .i64 t.proc) ∧ (nflat l)[i * 7 + 1]? = some (.int .i64 t.what) ∧ (nflat l)[i * 7 + 2]? = some (.int .i64 t.op.kind) ∧ (nflat l)[i * 7 + 3]? = some (.int .i64 t.op.a) ∧ (nflat l)[i * 7 + 4]? = some (.int .i64 t.op.b) ∧ (nflat l)[i * 7 + 5]? = some (.int .i64 t.op.c) ∧ (nflat l)[i * 7 + 6]? = some (.int .i64 t.n)
  | [], i, t, h => by simp at h
  | q :: r, 0, t, h => by
    obtain rfl : q = t := by simpa using h
    exact ⟨rfl, rfl, rfl, rfl, rfl, rfl, rfl⟩
  | q :: r, i + 1, t, h => by
    have := nflat_at r i t (by simpa using h)
    rw [show (i + 1) * 7 = i * 7 + 1 + 1 + 1 + 1 + 1 + 1 + 1 by omega]
    simpa [nflat] using this
theorem add_zero_off (g n : Nat) : (⟨g, 0, none⟩ : Addr).add n = ⟨g, n, none⟩ := by unfold Addr.add; split <;> simp_all
theorem nts_of_own {w : World} {B : Nat} {E : TypeId} {v : Value} {l : List Nt} (h : w.ownsRow B E 7 v l.length (nflat l)) (hl : l.length ≤ 100000) : ∃ A c, v = .slice A l.length c ∧ Nts w w.heap.size A l := by
  rcases Nat.eq_zero_or_pos l.length with e | e
  · rcases h.2 with ⟨rfl, _⟩ | ⟨g, cap, cur, rfl, _⟩
    · exact ⟨none, 0, by rw [e], by rw [e]; unfold maxLen; omega, fun hp => by omega⟩
    · exact ⟨_, _, rfl, by rw [e]; unfold maxLen; omega, fun hp => by omega⟩
  · obtain ⟨g, cap, rfl, _, hg⟩ := h.form e
    refine ⟨some ⟨g, 0, none⟩, cap, rfl, by unfold maxLen; omega, fun _ => ⟨_, rfl, hg, fun j t hj => ?_⟩⟩
    have hjl := (List.getElem?_eq_some_iff.1 hj).1
    rw [add_zero_off]
    have hc : ∀ i, i < l.length * 7 → w.cell? ⟨g, i, none⟩ = (nflat l)[i]? := fun i hi => h.cellAt i hi
    obtain ⟨q0, q1, q2, q3, q4, q5, q6⟩ := nflat_at l j t hj
    exact ⟨(hc (j * 7) (by omega)).trans q0, (hc (j * 7 + 1) (by omega)).trans q1, (hc (j * 7 + 2) (by omega)).trans q2, (hc (j * 7 + 3) (by omega)).trans q3, (hc (j * 7 + 4) (by omega)).trans q4, (hc (j * 7 + 5) (by omega)).trans q5, (hc (j * 7 + 6) (by omega)).trans q6⟩
theorem choose_ltN {α : Type} (h0 : Nonempty α) {n : Nat} {p : Nat → α → Prop} (h : ∀ i, i < n → ∃ a, p i a) : ∃ f : Nat → α, ∀ i, i < n → p i (f i) := by
  refine ⟨fun i => if hi : i < n then Classical.choose (h i hi) else Classical.choice h0, fun i hi => ?_⟩
  simp only [hi, dite_true]
  exact Classical.choose_spec (h i hi)

set_option maxRecDepth 100000 in
theorem open_notes {H : Type} {enc : TypeId × Value → H} {W : World} {v : Value} {d : DataW H} {p : List MemPlace} (hv : Value.okWide Tryd.prog W .any 0 179 v) (h : DataW.Trod enc Tryd.prog W 0 (fun _ => true) true 179 v d p) :
    ∃ (A : Option Addr) (l : List Nt) (c : Nat), v = .slice A l.length c ∧ Nts W W.heap.size A l ∧ ∀ t ∈ l, t.fits := by
  obtain ⟨a0, len, cap, rfl⟩ := okWide_slice Tryd.underlying179 hv
  obtain ⟨fuel, hf⟩ := h
  rcases open_slice Tryd.underlying179 hf with ⟨hcs, hx⟩ | ⟨ad, len', cap', m, n, D, Pl, hcs, _, hl, hm, hmm, hx, hi⟩
  · simp [Value.cells] at hcs
    obtain ⟨rfl, rfl, rfl⟩ := hcs
    exact ⟨none, [], 0, rfl, ⟨by simp, fun h => absurd h (by simp)⟩, fun a ha => by cases ha⟩
  simp [Value.cells] at hcs
  obtain ⟨rfl, rfl, rfl⟩ := hcs
  simp at hmm
  have hC : Tryd.prog.cellsOf 130 = 7 := by kernel_rfl
  have hC1 : Tryd.prog.cellsOf 3 = 1 := by kernel_rfl
  have hC4 : Tryd.prog.cellsOf 56 = 4 := by kernel_rfl
  have key : ∀ i, i < len → ∃ t : Nt, (∀ k : Nat, k < 7 → W.cell? ((ad.add (i * 7)).add k) = [Value.int .i64 t.proc, .int .i64 t.what, .int .i64 t.op.kind, .int .i64 t.op.a, .int .i64 t.op.b, .int .i64 t.op.c, .int .i64 t.n][k]?) ∧ t.fits := by
    intro i hin
    obtain ⟨cs', hc, ht'⟩ := hi i (by omega)
    rw [hC] at hc
    obtain ⟨_, hcl, hat⟩ := World.cells?_some hc
    obtain ⟨ys, n', hn', hy, hlen, hyl, hff⟩ := DataW.trod_struct Tryd.underlying130 ht'
    match cs', hcl with
    | [v0, v1, v2, v3, v4, v5, v6], _ =>
      have h0 := hff 0 _ (by simp only [List.getElem?_toArray, List.getElem?_cons_succ, List.getElem?_cons_zero]; rfl)
      have h1 := hff 1 _ (by simp only [List.getElem?_toArray, List.getElem?_cons_succ, List.getElem?_cons_zero]; rfl)
      have h2 := hff 2 _ (by simp only [List.getElem?_toArray, List.getElem?_cons_succ, List.getElem?_cons_zero]; rfl)
      have h3 := hff 3 _ (by simp only [List.getElem?_toArray, List.getElem?_cons_succ, List.getElem?_cons_zero]; rfl)
      dsimp only at h0 h1 h2 h3
      rw [hC1] at h0 h1 h3
      rw [hC4] at h2
      simp only [List.drop, List.take] at h0 h1 h2 h3
      have hyl : ys.length = 4 := hyl
      rw [List.getElem?_eq_getElem (by omega)] at h0 h1 h2 h3
      obtain ⟨n0, q0, _, w0⟩ := DataW.trod_int Tryd.underlying3 h0
      obtain ⟨n1, q1, _, w1⟩ := DataW.trod_int Tryd.underlying3 h1
      obtain ⟨n6, q6, _, w6⟩ := DataW.trod_int Tryd.underlying3 h3
      obtain ⟨zs, n2, _, _, _, hzl, hzf⟩ := DataW.trod_struct Tryd.underlying56 h2
      have g0 := hzf 0 _ (by simp only [List.getElem?_toArray, List.getElem?_cons_succ, List.getElem?_cons_zero]; rfl)
      have g1 := hzf 1 _ (by simp only [List.getElem?_toArray, List.getElem?_cons_succ, List.getElem?_cons_zero]; rfl)
      have g2 := hzf 2 _ (by simp only [List.getElem?_toArray, List.getElem?_cons_succ, List.getElem?_cons_zero]; rfl)
      have g3 := hzf 3 _ (by simp only [List.getElem?_toArray, List.getElem?_cons_succ, List.getElem?_cons_zero]; rfl)
      dsimp only at g0 g1 g2 g3
      rw [hC1] at g0 g1 g2 g3
      simp only [List.drop, List.take] at g0 g1 g2 g3
      have hzl : zs.length = 4 := hzl
      rw [List.getElem?_eq_getElem (by omega)] at g0 g1 g2 g3
      obtain ⟨m0, p0, _, u0⟩ := DataW.trod_int Tryd.underlying3 g0
      obtain ⟨m1, p1, _, u1⟩ := DataW.trod_int Tryd.underlying3 g1
      obtain ⟨m2, p2, _, u2⟩ := DataW.trod_int Tryd.underlying3 g2
      obtain ⟨m3, p3, _, u3⟩ := DataW.trod_int Tryd.underlying3 g3
      simp at q0 q1 q6 p0 p1 p2 p3
      subst q0 q1 q6 p0 p1 p2 p3
      exact ⟨⟨n0, n1, ⟨m0, m1, m2, m3⟩, n6⟩, fun k hk => hat k hk, bounds_i64 w0, bounds_i64 w1, bounds_i64 u0, bounds_i64 u1, bounds_i64 u2, bounds_i64 u3, bounds_i64 w6⟩
  obtain ⟨f, hf⟩ := choose_ltN ⟨⟨0, 0, ⟨0, 0, 0, 0⟩, 0⟩⟩ key
  have hlen : ((List.range len).map f).length = len := by simp
  refine ⟨some ad, (List.range len).map f, cap, by rw [hlen], ⟨by rw [hlen]; omega, fun hpos => ⟨ad, rfl, ?_, fun j a hja => ?_⟩⟩, fun a ha => ?_⟩
  · rw [hlen] at hpos
    have h0 := (hf 0 hpos).1 0 (by omega)
    have := World.block_lt_of_cell? W _ h0
    rwa [block_of_add, block_of_add] at this
  · have hj : j < len := by
      have := (List.getElem?_eq_some_iff.1 hja).1
      rwa [hlen] at this
    obtain rfl : f j = a := by simpa [hj] using hja
    have hk := (hf j hj).1
    have sp : ∀ k, k ≠ 0 → (ad.add (j * 7)).add k = ⟨(ad.add (j * 7)).block, (ad.add (j * 7)).off + k, none⟩ := fun k hk => by
      generalize ad.add (j * 7) = q
      unfold Addr.add
      rw [if_neg hk]
    have z : (ad.add (j * 7)).add 0 = ad.add (j * 7) := by
      generalize ad.add (j * 7) = q
      unfold Addr.add
      rw [if_pos rfl]
    unfold NtCells
    rw [← sp 1 (by omega), ← sp 2 (by omega), ← sp 3 (by omega), ← sp 4 (by omega), ← sp 5 (by omega), ← sp 6 (by omega)]
    have a0 := hk 0 (by omega)
    rw [z] at a0
    exact ⟨a0, hk 1 (by omega), hk 2 (by omega), hk 3 (by omega), hk 4 (by omega), hk 5 (by omega), hk 6 (by omega)⟩
  · obtain ⟨i, hi, rfl⟩ := List.mem_map.1 ha
    exact (hf i (List.mem_range.1 hi)).2
end Go.Proofs.YtcheafeaioflmaaDoor
