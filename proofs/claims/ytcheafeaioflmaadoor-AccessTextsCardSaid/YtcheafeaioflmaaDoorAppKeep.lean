/- Appending strings to a row of strings that is owned: other rows are kept. -/
import Derived.Test.YtcheafeaioflmaaDoorAppStr
namespace Go.Proofs.YtcheafeaioflmaaDoor
open Go Go.RowKit
set_option linter.unusedVariables false

theorem app_strsK {ops : Array Oper} {rest : List Oper} {o : Oper} {a : Act} {Q : Exit → Act → World → Prop} {w : World} (hgd : o.guard = none) (s x : Operand) (ho : o.op = .call { callee := .builtin .append, args := #[s, x], argTypes := #[28, 28] })
    (B : Nat) (v : Value) (ss ts : List ByteArray) (hs : a.eval s = v) (hown : w.ownsRow B 9 1 v ss.length (ss.map Value.string))
    (R : Nat) (A : Option Addr) (m c : Nat) (news : List Value) (hx : a.eval x = .slice A m c) (hr : Reads w R 1 A m news) (hm : m = ts.length) (hnews : news = ts.map Value.string)
    (hl : ss.length + ts.length ≤ 1000) (hB : B ≤ w.heap.size)
    (h : ∀ v' w', w'.ownsRow B 9 1 v' (ss ++ ts).length ((ss ++ ts).map Value.string) → Below B w w' → Keep (fun y => v.ownBlock = some y) w w' → wpList Tryd.prog ops Q rest (a.put o.dst v') w') : wpList Tryd.prog ops Q (o :: rest) a w := by
  obtain ⟨i0, hi0, hz0, hz1, hz2⟩ := info_str8'
  subst hm hnews
  refine wpList_append_any _ hgd s x _ ho B 9 i0 _ 1 16 Tryd.underlying28 hi0 hz0 hz1 hz2 rfl (by omega) v ss.length (ss.map Value.string) hs hown R A ts.length c (ts.map Value.string) hx hr (by
    intro u hu
    obtain ⟨b, _, rfl⟩ := List.mem_map.1 hu
    rfl) (by unfold maxLen; omega) (by omega) hB ?_
  intro v1 w1 hown1 hg1 hat1
  refine h v1 w1 ?_ ((Below.refl _ _).grown hg1 hB (fun k hk => (hown.lt k hk).1)) (Keep.of_grown hg1 (fun _ h => h))
  rw [List.length_append, List.map_append]
  exact hown1
theorem row_keep {w w' : World} {B : Nat} {E : TypeId} {u v : Value} {n : Nat} {xs : List Value} (h : w.ownsRow B E 1 u n xs) (hk : Keep (fun y => v.ownBlock = some y) w w') (hd : ∀ y, u.ownBlock = some y → v.ownBlock ≠ some y) : w'.ownsRow B E 1 u n xs := by
  refine ⟨h.1, ?_⟩
  rcases h.2 with h0 | ⟨g, cap, cur, rfl, hB, hg, r⟩
  · exact .inl h0
  · exact .inr ⟨g, cap, cur, rfl, hB, hk.at_ hg (hd g rfl), r⟩
end Go.Proofs.YtcheafeaioflmaaDoor
