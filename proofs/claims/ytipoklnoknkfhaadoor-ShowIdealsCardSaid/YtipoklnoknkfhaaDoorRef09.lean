/- Small contracts of the document's answer for ideal stores: mudlarkref09 number, truth; mudlarkref07 Great. -/
import Derived.Test.YtipoklnoknkfhaaDoorRef08
import Derived.Test.YtipoklnoknkfhaaDoorWordAll
namespace Go.Proofs.YtipoklnoknkfhaaDoor
open Go Go.RowKit
set_option linter.unusedSimpArgs false
set_option linter.unusedVariables false

theorem rnumber_any (w : World) (a : Int) (h0 : 0 ≤ a) (h1 : a < 18446744073709551616) :
    Calls Tryd.prog 58 #[.int .u64 a] w fun e w' => e = .returned (.int .i64 (if a % 2 = 0 then -1 else a / 2)) ∧ w' = w := by
  rcases Int.emod_two_eq a with h | h
  · have e1 : a % 2 = 0 := h
    have t1 : IntKind.u64.wrap (a % 2) = 0 := by rw [h]; rfl
    rw [if_pos h]
    go_enter Tryd.func58, Tryd.ntmps58
    go_wp2_with fail
    go_ret
    exact ⟨rfl, rfl⟩
  · have e1 : a % 2 = 1 := h
    have hw : IntKind.i64.wrap (a / 2) = a / 2 := IntWalk.i64_in _ (by omega)
    rw [if_neg (by omega)]
    go_enter Tryd.func58, Tryd.ntmps58
    go_wp2_with fail
    go_ret
    exact ⟨rfl, rfl⟩
theorem rtruth_any (w : World) (c : Bool) : Calls Tryd.prog 60 #[.bool c] w fun e w' => e = .returned (.int .i64 (if c = true then 2 else 3)) ∧ w' = w := by
  cases c
  all_goals
    go_enter Tryd.func60, Tryd.ntmps60
    go_wp2_with fail
    go_ret
    exact ⟨rfl, rfl⟩
def great (c : Cfg) : Bool := decide (30 < c.cells) || decide (12 < c.muts) || decide (8 < c.regs) || decide (8 < c.globs)
theorem great_any (w : World) (c : Cfg) : Calls Tryd.prog 10 #[c.v] w fun e w' => e = .returned (.bool (great c)) ∧ Below w.heap.size w w' := by
  obtain ⟨k0, k1, k2, k3⟩ := Cfg.cells_at (heap_alloc_new w c.obj)
  have HB : Hid (Below w.heap.size w (w.alloc c.obj)) := (Below.refl _ _).alloc (Nat.le_refl _) _
  by_cases c0 : 30 < c.cells
  · have d0 : decide (30 < c.cells) = true := by simpa using c0
    have HG : Hid (great c = true) := by unfold Hid great; rw [d0]; simp
    rw [HG.out]
    clear c0
    go_enter Tryd.func10, Tryd.ntmps10
    go_wp2_with fail
    go_ret
    exact ⟨rfl, HB.out⟩
  have d0 : decide (30 < c.cells) = false := by simpa using c0
  by_cases c1 : 12 < c.muts
  · have d1 : decide (12 < c.muts) = true := by simpa using c1
    have HG : Hid (great c = true) := by unfold Hid great; rw [d0, d1]; simp
    rw [HG.out]
    clear c1
    go_enter Tryd.func10, Tryd.ntmps10
    go_wp2_with fail
    go_ret
    exact ⟨rfl, HB.out⟩
  have d1 : decide (12 < c.muts) = false := by simpa using c1
  by_cases c2 : 8 < c.regs
  · have d2 : decide (8 < c.regs) = true := by simpa using c2
    have HG : Hid (great c = true) := by unfold Hid great; rw [d0, d1, d2]; simp
    rw [HG.out]
    clear c2
    go_enter Tryd.func10, Tryd.ntmps10
    go_wp2_with fail
    go_ret
    exact ⟨rfl, HB.out⟩
  have d2 : decide (8 < c.regs) = false := by simpa using c2
  by_cases c3 : 8 < c.globs
  · have d3 : decide (8 < c.globs) = true := by simpa using c3
    have HG : Hid (great c = true) := by unfold Hid great; rw [d0, d1, d2, d3]; simp
    rw [HG.out]
    clear c3
    go_enter Tryd.func10, Tryd.ntmps10
    go_wp2_with fail
    go_ret
    exact ⟨rfl, HB.out⟩
  have d3 : decide (8 < c.globs) = false := by simpa using c3
  have HG : Hid (great c = false) := by unfold Hid great; rw [d0, d1, d2, d3]; rfl
  rw [HG.out]
  clear c0 c1 c2 c3
  go_enter Tryd.func10, Tryd.ntmps10
  go_wp2_with fail
  go_ret
  exact ⟨rfl, HB.out⟩
abbrev rstoObj (c : Cfg) (v : Value) (n : Int) : Obj := .cells #[.int .i64 c.cells, .int .i64 c.muts, .int .i64 c.regs, .int .i64 c.globs, v, .int .i64 n] 106
theorem rnew_any (w : World) (m r g : Int) : Calls Tryd.prog 21 #[.int .i64 m, .int .i64 r, .int .i64 g] w fun e w' => e = .returned (.pointer (some ⟨w.heap.size, 0, none⟩)) ∧ ∃ n, w' = (w.alloc (rstoObj ⟨2, m, r, g⟩ (.slice none 0 0) 0)).drewN n := by
  go_enter Tryd.func21, Tryd.ntmps21
  go_wp2_with fail
  go_ret
  exact ⟨rfl, 0, rfl⟩
end Go.Proofs.YtipoklnoknkfhaaDoor
