/- A slice of accesses that came in, opened. -/
import Derived.Test.YtnbigldfklehgabOpenRows
import Derived.Test.YtnbigldfklehgabArenaPlays
namespace Go.Proofs.Ytnbigldfklehgab
open Go Go.RowKit Go.ChangeShapes Go.WideShapes Go.Deep

theorem wf_of {xs : List Int} (h : ∀ x ∈ xs, (Lit.int .u64 x).wf = true) : Wf xs := by
  intro j hj
  have := bounds_u64 (h xs[j] (List.getElem_mem hj))
  rw [wd_eq xs j hj]
  omega
set_option maxRecDepth 100000 in
theorem open_accs {H : Type} {enc : TypeId × Value → H} {W : World} {v : Value} {d : DataW H} {p : List MemPlace} (hv : Value.okWide Try.prog W .any 0 40 v) (h : DataW.Trod enc Try.prog W 0 (fun _ => true) true 40 v d p) :
    ∃ (A : Option Addr) (l : List Acc) (c : Nat), v = .slice A l.length c ∧ Accs W W.heap.size A l ∧ ∀ a ∈ l, (0 ≤ a.x ∧ a.x < 18446744073709551616) ∧ (0 ≤ a.y ∧ a.y < 18446744073709551616) := by
  obtain ⟨A, n, c, rfl, hn, hc⟩ := open_rows Try.underlying40 Try.underlying47 (by kernel_rfl) (by kernel_rfl) (by decide) hv h
  by_cases h0 : n = 0
  · subst h0
    exact ⟨A, [], c, rfl, ⟨by simp, fun h => absurd h (by simp)⟩, fun a ha => by cases ha⟩
  obtain ⟨ad, rfl, hB, hc⟩ := hc (by omega)
  have key : ∀ i, i < n → ∃ a : Acc, (W.cell? (ad.add (i * 5)) = some (.int .i64 a.kind) ∧ W.cell? (ad.add (i * 5 + 1)) = some (.int .i64 a.at_) ∧ W.cell? (ad.add (i * 5 + 2)) = some (.int .u64 a.x) ∧ W.cell? (ad.add (i * 5 + 3)) = some (.int .u64 a.y) ∧ W.cell? (ad.add (i * 5 + 4)) = some (.int .u64 a.old)) ∧
      (0 ≤ a.x ∧ a.x < 18446744073709551616) ∧ (0 ≤ a.y ∧ a.y < 18446744073709551616) := by
    intro i hi
    obtain ⟨u0, y0, m0, e0, t0⟩ := hc i hi 0 _ rfl
    obtain ⟨u1, y1, m1, e1, t1⟩ := hc i hi 1 _ rfl
    obtain ⟨u2, y2, m2, e2, t2⟩ := hc i hi 2 _ rfl
    obtain ⟨u3, y3, m3, e3, t3⟩ := hc i hi 3 _ rfl
    obtain ⟨u4, y4, m4, e4, t4⟩ := hc i hi 4 _ rfl
    obtain ⟨n0, q0, _, w0⟩ := DataW.trod_int Try.underlying3 t0
    obtain ⟨n1, q1, _, w1⟩ := DataW.trod_int Try.underlying3 t1
    obtain ⟨n2, q2, _, w2⟩ := DataW.trod_int Try.underlying45 t2
    obtain ⟨n3, q3, _, w3⟩ := DataW.trod_int Try.underlying45 t3
    obtain ⟨n4, q4, _, w4⟩ := DataW.trod_int Try.underlying45 t4
    simp at q0 q1 q2 q3 q4
    subst q0 q1 q2 q3 q4
    have b2 := bounds_u64 w2
    have b3 := bounds_u64 w3
    exact ⟨⟨n0, n1, n2, n3, n4⟩, ⟨by simpa using e0, e1, e2, e3, e4⟩, by dsimp only; omega, by dsimp only; omega⟩
  obtain ⟨f, hf⟩ := @choose_lt Acc ⟨Acc.zero⟩ n _ key
  have hlen : ((List.range n).map f).length = n := by simp
  refine ⟨some ad, (List.range n).map f, c, by rw [hlen], ⟨by rw [hlen]; exact hn, fun _ => ⟨ad, rfl, hB, fun j hj => ?_⟩⟩, fun a ha => ?_⟩
  · rw [hlen] at hj
    have e : ((List.range n).map f)[j] = f j := by simp
    obtain ⟨⟨c0, c1, c2, c3, c4⟩, _⟩ := hf j hj
    have sp : ∀ k, k ≠ 0 → ad.add (j * 5 + k) = ⟨(ad.add (j * 5)).block, (ad.add (j * 5)).off + k, none⟩ := fun k hk => by
      rw [← add_of_add]
      generalize ad.add (j * 5) = q
      unfold Addr.add
      rw [if_neg hk]
    rw [e, ← sp 1 (by omega), ← sp 2 (by omega), ← sp 3 (by omega), ← sp 4 (by omega)]
    exact ⟨c0, c1, c2, c3, c4⟩
  · obtain ⟨i, hi, rfl⟩ := List.mem_map.1 ha
    exact (hf i (List.mem_range.1 hi)).2
end Go.Proofs.Ytnbigldfklehgab
