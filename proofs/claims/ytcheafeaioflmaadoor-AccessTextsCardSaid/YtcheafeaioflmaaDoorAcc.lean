/- An access as a value. -/
import Derived.Test.YtcheafeaioflmaaDoorBase
namespace Go.Proofs.YtcheafeaioflmaaDoor
open Go Go.RowKit
set_option linter.unusedVariables false

/-- an access -/
structure Acc where
  kind : Int
  at_ : Int
  x : Int
  y : Int
  old : Int
  deriving DecidableEq
abbrev Acc.v (a : Acc) : Value := .agg #[.int .i64 a.kind, .int .i64 a.at_, .int .u64 a.x, .int .u64 a.y, .int .u64 a.old]
abbrev Acc.obj (a : Acc) : Obj := .cells #[.int .i64 a.kind, .int .i64 a.at_, .int .u64 a.x, .int .u64 a.y, .int .u64 a.old] 33
def Acc.zero : Acc := ⟨0, 0, 0, 0, 0⟩
abbrev Acc.zobj : Obj := .cells #[.int .i64 0, .int .i64 0, .int .u64 0, .int .u64 0, .int .u64 0] 33
theorem acc_cells {a : Acc} {w : World} {b : Nat} (h : w.heap[b]? = some a.obj) : w.cell? ⟨b, 0, none⟩ = some (.int .i64 a.kind) ∧ w.cell? ⟨b, 1, none⟩ = some (.int .i64 a.at_) ∧ w.cell? ⟨b, 2, none⟩ = some (.int .u64 a.x) ∧ w.cell? ⟨b, 3, none⟩ = some (.int .u64 a.y) ∧ w.cell? ⟨b, 4, none⟩ = some (.int .u64 a.old) ∧ w.frozen? ⟨b, 4, none⟩ = false :=
  ⟨cell_of_block h 0, cell_of_block h 1, cell_of_block h 2, cell_of_block h 3, cell_of_block h 4, frozen_of_block h 4⟩
theorem zacc_cells {w : World} {b : Nat} (h : w.heap[b]? = some Acc.zobj) : w.cell? ⟨b, 0, none⟩ = some (.int .i64 0) ∧ w.cell? ⟨b, 1, none⟩ = some (.int .i64 0) ∧ w.cell? ⟨b, 2, none⟩ = some (.int .u64 0) ∧ w.cell? ⟨b, 3, none⟩ = some (.int .u64 0) ∧ w.cell? ⟨b, 4, none⟩ = some (.int .u64 0) ∧
    w.frozen? ⟨b, 0, none⟩ = false ∧ w.frozen? ⟨b, 1, none⟩ = false ∧ w.frozen? ⟨b, 2, none⟩ = false ∧ w.frozen? ⟨b, 3, none⟩ = false ∧ w.frozen? ⟨b, 4, none⟩ = false :=
  ⟨cell_of_block h 0, cell_of_block h 1, cell_of_block h 2, cell_of_block h 3, cell_of_block h 4, frozen_of_block h 0, frozen_of_block h 1, frozen_of_block h 2, frozen_of_block h 3, frozen_of_block h 4⟩
end Go.Proofs.YtcheafeaioflmaaDoor
