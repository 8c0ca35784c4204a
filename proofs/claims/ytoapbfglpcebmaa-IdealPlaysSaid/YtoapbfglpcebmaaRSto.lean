/- The document's ideal store in memory. -/
import Derived.Test.YtoapbfglpcebmaaRef09
import Derived.Test.YtoapbfglpcebmaaIdealRefPure
namespace Go.Proofs.Ytoapbfglpcebmaa
open Go Go.RowKit
set_option linter.unusedSimpArgs false
set_option linter.unusedVariables false

def pflat : List Pt → List Value
  | [] => []
  | p :: r => .int .i64 p.kind :: .int .i64 p.a :: .int .i64 p.b :: .int .u64 p.w :: pflat r
theorem pflat_len : ∀ l : List Pt, (pflat l).length = l.length * 4
  | [] => rfl
  | p :: r => by simp [pflat, pflat_len r]; omega
theorem pflat_append : ∀ l m : List Pt, pflat (l ++ m) = pflat l ++ pflat m
  | [], _ => rfl
  | p :: r, m => by simp [pflat, pflat_append r m]
theorem pflat_at : ∀ (l : List Pt) (i : Nat) (p : Pt), l[i]? = some p → (pflat l)[i * 4]? = some (.int .i64 p.kind) ∧ (pflat l)[i * 4 + 1]? = some (.int .i64 p.a) ∧ (pflat l)[i * 4 + 2]? = some (.int .i64 p.b) ∧ (pflat l)[i * 4 + 3]? = some (.int .u64 p.w)
  | [], i, p, h => by simp at h
  | q :: r, 0, p, h => by
    obtain rfl : q = p := by simpa using h
    exact ⟨rfl, rfl, rfl, rfl⟩
  | q :: r, i + 1, p, h => by
    have := pflat_at r i p (by simpa using h)
    rw [show (i + 1) * 4 = i * 4 + 1 + 1 + 1 + 1 by omega]
    simpa [pflat] using this
/-- what Get finds among the first k+1 puts, seen from behind -/
theorem getL_take (l : List Pt) (k : Nat) (p : Pt) (h : l[k]? = some p) (kd a b : Int) : getL (l.take (k + 1)) kd a b = if p.kind = kd ∧ p.a = a ∧ p.b = b then p.w else getL (l.take k) kd a b := by
  have e : l.take (k + 1) = l.take k ++ [p] := by
    rw [List.take_add_one, h]
    rfl
  rw [e, getL_snoc]
structure RAt (w : World) (T : Nat → Prop) (b : Nat) (x : RSto) (v : Value) : Prop where
  head : w.heap[b]? = some (rstoObj x.c v x.n)
  rows : w.ownsRow 0 109 4 v x.puts.length (pflat x.puts)
  tb : T b
  tv : ∀ g, v.ownBlock = some g → T g
  ne : v.ownBlock ≠ some b
end Go.Proofs.Ytoapbfglpcebmaa
