/- Bounds of configurations, and how they grow: plain laws. -/
import Derived.Test.YtcheafeaioflmaaDoorConfig
namespace Go.Proofs.YtcheafeaioflmaaDoor
open Go Go.RowKit
set_option linter.unusedVariables false

def Cfg.opr (c : Cfg) : Int := if c.ok = true then 128 * (c.muts + 1) else 0
def Cfg.cyc (c : Cfg) : Int := if c.ok = true then 32 * (c.cells + c.muts + 1) * (c.cells + c.roots + 32 * c.muts) else 0
theorem Cfg.roots_in (c : Cfg) (ok : c.ok = true) : c.roots = 1 + c.globs + c.muts * c.regs ∧ 1 ≤ c.roots ∧ c.roots ≤ 4097 := by
  have h := c.mr ok
  have ho := c.ok_iff.1 ok
  have e : c.roots = 1 + c.globs + c.muts * c.regs := by unfold Cfg.roots; rw [if_pos ok]
  omega
theorem cyc_bd (c : Cfg) (ok : c.ok = true) : 0 ≤ 32 * (c.cells + c.muts + 1) ∧ 32 * (c.cells + c.muts + 1) ≤ 140000 ∧ 0 ≤ c.cells + c.roots + 32 * c.muts ∧ c.cells + c.roots + 32 * c.muts ≤ 12000 ∧ 0 ≤ 32 * (c.cells + c.muts + 1) * (c.cells + c.roots + 32 * c.muts) ∧ 32 * (c.cells + c.muts + 1) * (c.cells + c.roots + 32 * c.muts) ≤ 1680000000 := by
  have ho := c.ok_iff.1 ok
  have hr := c.roots_in ok
  have h1 : 0 ≤ 32 * (c.cells + c.muts + 1) ∧ 32 * (c.cells + c.muts + 1) ≤ 140000 := by omega
  have h2 : 0 ≤ c.cells + c.roots + 32 * c.muts ∧ c.cells + c.roots + 32 * c.muts ≤ 12000 := by omega
  have h3 := mul_bd h1.1 h1.2 h2.1 h2.2
  exact ⟨h1.1, h1.2, h2.1, h2.2, h3.1, by omega⟩
theorem cyc_lt {A B A' B' : Int} (h0 : 0 < A) (hA : A ≤ A') (hB0 : 0 < B) (hB : B < B') : 32 * A * B < 32 * A' * B' := by
  have h1 : 32 * A * B ≤ 32 * A' * B := Int.mul_le_mul_of_nonneg_right (by omega) (by omega)
  have h2 : 32 * A' * B < 32 * A' * B' := Int.mul_lt_mul_of_pos_left hB (by omega)
  omega
/-- one more of what the number names -/
def Cfg.more (c : Cfg) (j : Int) : Cfg := if j = 0 then { c with cells := c.cells + 1 } else if j = 1 then { c with muts := c.muts + 1 } else if j = 2 then { c with regs := c.regs + 1 } else { c with globs := c.globs + 1 }
theorem cfg_grows (c : Cfg) (j : Int) (oc : c.ok = true) (od : (c.more j).ok = true) : c.words < (c.more j).words ∧ c.cyc < (c.more j).cyc ∧ ((c.more j).opr = c.opr ↔ (c.more j).muts = c.muts) ∧ c.roots ≤ (c.more j).roots := by
  have hc := c.ok_iff.1 oc
  obtain ⟨r1, r2, r3⟩ := c.roots_in oc
  obtain ⟨s1, s2, s3⟩ := (c.more j).roots_in od
  have hd := (c.more j).ok_iff.1 od
  have e : c.cells ≤ (c.more j).cells ∧ c.muts ≤ (c.more j).muts ∧ c.roots ≤ (c.more j).roots ∧ c.cells + c.muts + c.roots < (c.more j).cells + (c.more j).muts + (c.more j).roots ∧ c.cells + c.roots + 32 * c.muts < (c.more j).cells + (c.more j).roots + 32 * (c.more j).muts := by
    rw [s1, r1]
    unfold Cfg.more
    split
    · simp only; omega
    · split
      · simp only
        rw [show (c.muts + 1) * c.regs = c.muts * c.regs + c.regs by rw [Int.add_mul]; omega]
        omega
      · split
        · simp only
          rw [show c.muts * (c.regs + 1) = c.muts * c.regs + c.muts by rw [Int.mul_add]; omega]
          omega
        · simp only; omega
  refine ⟨?_, ?_, ?_, e.2.2.1⟩
  · unfold Cfg.words
    rw [if_pos oc, if_pos od]
    omega
  · unfold Cfg.cyc
    rw [if_pos oc, if_pos od]
    exact cyc_lt (by omega) (by omega) (by omega) (by omega)
  · unfold Cfg.opr
    rw [if_pos oc, if_pos od]
    omega
end Go.Proofs.YtcheafeaioflmaaDoor
