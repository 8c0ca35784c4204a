/- The registers of an operation, told one after another: the iterator's contract. -/
import Derived.RangeFuncNested
import Derived.RangeFuncBound
import Derived.RangeFuncCalls
import Derived.RangeFuncLeaves
import Derived.RangeFuncBox
import Derived.Shelf.Abstract
import Derived.Shelf.RegionOpen
import Derived.WalkKit
import Derived.OwnWalkIn
import Derived.TacticsInMore
import Derived.LoopNIn
import Derived.LoopIn
import Derived.Maps.AppendAt
import Derived.Test.YtcheafeaioflmaaDoorOp
namespace Go.Proofs.YtcheafeaioflmaaDoor
open Go Go.RowKit Go.Shelf
set_option linter.unusedSimpArgs false
set_option linter.unusedVariables false
attribute [local go_sem] Oper.semAt_some

/-- the registers among the first k numbers -/
def regsTo (ps : ByteArray) (x : Opr) (k : Nat) : List Int := ((List.range k).filter fun i => decide (ps.data.toList[i]? = some 114)).map x.num
def oregs (x : Opr) : List Int := if 1 ≤ x.kind ∧ x.kind ≤ 11 then regsTo (fpart x.kind) x (fpart x.kind).size else []
theorem regsTo_yes {ps : ByteArray} {x : Opr} {k : Nat} (h : ps.data.toList[k]? = some 114) : regsTo ps x (k + 1) = regsTo ps x k ++ [x.num k] := by
  unfold regsTo
  rw [List.range_succ, List.filter_append, List.map_append, List.filter_cons_of_pos (by exact decide_eq_true h), List.filter_nil]
  rfl
theorem regsTo_no {ps : ByteArray} {x : Opr} {k : Nat} (h : ¬ ps.data.toList[k]? = some 114) : regsTo ps x (k + 1) = regsTo ps x k := by
  unfold regsTo
  rw [List.range_succ, List.filter_append, List.map_append, List.filter_cons_of_neg (by simpa using h), List.filter_nil]
  simp
theorem regsTo_pre {ps : ByteArray} {x : Opr} {k n : Nat} (h : k ≤ n) : regsTo ps x k <+: regsTo ps x n := by
  induction n with
  | zero => obtain rfl : k = 0 := by omega
            exact List.prefix_refl _
  | succ n ih =>
    rcases Nat.lt_or_ge k (n + 1) with h1 | h1
    · refine (ih (by omega)).trans ?_
      by_cases hc : ps.data.toList[n]? = some 114
      · rw [regsTo_yes hc]; exact List.prefix_append _ _
      · rw [regsTo_no hc]; exact List.prefix_refl _
    · obtain rfl : k = n + 1 := by omega
      exact List.prefix_refl _
theorem regsTo_len {ps : ByteArray} {x : Opr} (k : Nat) : (regsTo ps x k).length ≤ k := by
  unfold regsTo
  rw [List.length_map]
  have := List.length_filter_le (fun i => decide (ps.data.toList[i]? = some 114)) (List.range k)
  simpa using this
theorem oregs_len (x : Opr) : (oregs x).length ≤ 3 := by
  unfold oregs
  split
  · have h1 := regsTo_len (ps := fpart x.kind) (x := x) (fpart x.kind).size
    have h2 : (fpart x.kind).size ≤ 3 := part_len x.kind
    omega
  · simp
theorem abides_below {α : Type} {B : Nat} {J : α → World → Prop} (hJ : AbidesFrom B J) {s : α} {W W' : World} (h : J s W) (hb : Below W.heap.size W W') : J s W' :=
  hJ s W W' none h ⟨hb.os, hb.tape, hb.output, hb.size, fun k hk _ => hb.block k hk⟩ (fun r e => by cases e)
theorem abides_iter {α : Type} {B : Nat} {J : α → World → Prop} (hJ : AbidesFrom B J) {s : α} {W : World} (h : J s W) {k pos : Nat} {ps : ByteArray} (hk : B ≤ k) (hi : W.heap[k]? = some (.stringIter ps pos)) (pos' : Nat) : J s (W.iterAt k ps pos') := by
  refine hJ s W _ (some k) h ⟨rfl, rfl, rfl, by rw [Lib.iterAt_size]; exact Nat.le_refl _, fun j hj hn => Lib.iterAt_other W k j ps pos' (fun e => hn (by rw [e]))⟩ (fun r e => ?_)
  cases e
  exact ⟨hk, _, hi, rfl⟩
/-- what a round keeps for this iterator -/
def RKp (Bn : Nat) (W W' : World) : Prop := W'.heap[Bn]? = W.heap[Bn]? ∧ KeepsWalks W W'
theorem rkp_t {Bn : Nat} {A B C : World} (h : RKp Bn A B) (k : RKp Bn B C) : RKp Bn A C := ⟨k.1.trans h.1, h.2.trans k.2⟩
theorem rkp_b {Bn : Nat} {w : World} (hn : Bn < w.heap.size) (W : World) (l : Nat) (o o' : Obj) (hl : w.heap.size ≤ l) (h : W.heap[l]? = some o) (hc : o.isCells = false) (hw : o.isWalk = false) : RKp Bn W (W.putObj l o') :=
  ⟨(belowK_b (n₀ := w.heap.size) (Nat.le_refl _) W l o o' hl h hc hw).block Bn hn, walksK_b W l o o' hl h hc hw⟩
theorem rkp_set {Bn : Nat} (W : World) {k : Nat} (h : Bn ≠ k) (v : Value) : RKp Bn W (W.setCell ⟨k, 0, none⟩ v) := ⟨Below.heap_setCell _ _ _ _ h, (KeepsOthers.setCell _ _ _).walks⟩
end Go.Proofs.YtcheafeaioflmaaDoor
