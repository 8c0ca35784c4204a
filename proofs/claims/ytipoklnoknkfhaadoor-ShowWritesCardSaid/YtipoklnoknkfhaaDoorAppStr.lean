/- Appending strings to a row of strings that is owned. -/
import Derived.Test.YtipoklnoknkfhaaDoorOpText
namespace Go.Proofs.YtipoklnoknkfhaaDoor
open Go Go.RowKit
set_option linter.unusedVariables false

theorem reads_two (W : World) (E : TypeId) (a b : Value) : Reads (W.alloc (.cells #[a, b] E)) (W.heap.size + 1) 1 (some ⟨W.heap.size, 0, none⟩) 2 [a, b] := by
  refine ⟨rfl, fun _ => ⟨_, rfl, by simp, fun j u hu => ?_⟩⟩
  have hj : j < 2 := by
    have := (List.getElem?_eq_some_iff.1 hu).1
    simpa using this
  have e : (⟨W.heap.size, 0, none⟩ : Addr).add j = ⟨W.heap.size, j, none⟩ := by unfold Addr.add; split <;> simp_all
  rw [e, cell_of_block (heap_alloc_new W _)]
  simpa using hu
theorem reads_none (W : World) (B : Nat) : Reads W B 1 none 0 [] := ⟨rfl, fun h => absurd h (by omega)⟩
theorem reads_row {W : World} {B : Nat} {E : TypeId} {A : Option Addr} {n c : Nat} {xs : List Value} (h : W.ownsRow B E 1 (.slice A n c) n xs) : Reads W W.heap.size 1 A n xs := by
  have hl : xs.length = n := by
    have := h.1
    omega
  refine ⟨by omega, fun hn => ?_⟩
  rcases h.2 with ⟨h0, e⟩ | ⟨g, cap, cur, hv, hb, hg, hc, hm⟩
  · cases h0
    omega
  · cases hv
    refine ⟨_, rfl, block_lt hg, fun j u hu => ?_⟩
    have hj := (List.getElem?_eq_some_iff.1 hu).1
    have e : (⟨g, 0, none⟩ : Addr).add j = ⟨g, j, none⟩ := by unfold Addr.add; split <;> simp_all
    rw [e, h.cellAt j (by omega)]
    exact hu
theorem own_two {W : World} {B g : Nat} {a b : ByteArray} (h : W.heap[g]? = some (.cells #[.string a, .string b] 9)) (hB : B ≤ g) : W.ownsRow B 9 1 (.slice (some ⟨g, 0, none⟩) 2 2) [a, b].length ([a, b].map Value.string) :=
  ⟨by simp, .inr ⟨g, 2, #[.string a, .string b], rfl, hB, h, by simp, by unfold maxLen; omega, by simp, by simp⟩⟩
theorem own_nil (W : World) (B : Nat) : W.ownsRow B 9 1 (.slice none 0 0) ([] : List ByteArray).length (([] : List ByteArray).map Value.string) := ⟨by simp, .inl ⟨rfl, rfl⟩⟩
theorem app_strs {ops : Array Oper} {rest : List Oper} {o : Oper} {a : Act} {Q : Exit → Act → World → Prop} {w : World} (hgd : o.guard = none) (s x : Operand) (ho : o.op = .call { callee := .builtin .append, args := #[s, x], argTypes := #[35, 35] })
    (B : Nat) (v : Value) (ss ts : List ByteArray) (hs : a.eval s = v) (hown : w.ownsRow B 9 1 v ss.length (ss.map Value.string))
    (R : Nat) (A : Option Addr) (m c : Nat) (news : List Value) (hx : a.eval x = .slice A m c) (hr : Reads w R 1 A m news) (hm : m = ts.length) (hnews : news = ts.map Value.string)
    (hl : ss.length + ts.length ≤ 1000) (hB : B ≤ w.heap.size)
    (h : ∀ v' w', w'.ownsRow B 9 1 v' (ss ++ ts).length ((ss ++ ts).map Value.string) → Below B w w' → wpList Tryd.prog ops Q rest (a.put o.dst v') w') : wpList Tryd.prog ops Q (o :: rest) a w := by
  obtain ⟨i0, hi0, hz0, hz1, hz2⟩ := info_str8'
  subst hm hnews
  refine wpList_append_any _ hgd s x _ ho B 9 i0 _ 1 16 Tryd.underlying35 hi0 hz0 hz1 hz2 rfl (by omega) v ss.length (ss.map Value.string) hs hown R A ts.length c (ts.map Value.string) hx hr (by
    intro u hu
    obtain ⟨b, _, rfl⟩ := List.mem_map.1 hu
    rfl) (by unfold maxLen; omega) (by omega) hB ?_
  intro v1 w1 hown1 hg1 hat1
  refine h v1 w1 ?_ ((Below.refl _ _).grown hg1 hB (fun k hk => (hown.lt k hk).1))
  rw [List.length_append, List.map_append]
  exact hown1
end Go.Proofs.YtipoklnoknkfhaaDoor
