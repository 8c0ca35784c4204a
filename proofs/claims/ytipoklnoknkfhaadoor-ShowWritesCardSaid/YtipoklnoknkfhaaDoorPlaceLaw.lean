/- The laws of places: awake, PlaceTells: their walks. -/
import Derived.Test.YtipoklnoknkfhaaDoorRef04
namespace Go.Proofs.YtipoklnoknkfhaaDoor
open Go Go.RowKit
set_option linter.unusedSimpArgs false
set_option linter.unusedVariables false

/-! ### the plain law -/
theorem wrap64_id {x : Int} (h0 : -9223372036854775808 ≤ x) (h1 : x ≤ 9223372036854775807) : wrap64 x = x := by unfold wrap64; omega
theorem Cfg.begin_ (c : Cfg) (ok : c.ok = true) : c.g0 = 5 + c.muts ∧ c.r0 = 5 + c.muts + c.globs ∧ c.c0 = 5 + c.muts + c.globs + c.muts * c.regs := by
  obtain ⟨_, _⟩ := c.mr ok
  obtain ⟨_, _, _, _, _, _, _, _⟩ := c.ok_iff.1 ok
  have e0 : c.g0 = 5 + c.muts := wrap64_id (by omega) (by omega)
  have e1 : c.r0 = 5 + c.muts + c.globs := by unfold Cfg.r0; rw [e0]; exact wrap64_id (by omega) (by omega)
  refine ⟨e0, e1, ?_⟩
  unfold Cfg.c0
  rw [e1, wrap64_id (x := c.muts * c.regs) (by omega) (by omega)]
  exact wrap64_id (by omega) (by omega)
theorem Cfg.at_ok (c : Cfg) (ok : c.ok = true) (f i many apart : Int) (h0 : 0 ≤ f) (h1 : f ≤ 100000) (h2 : many ≤ 100000) (h3 : 0 ≤ apart) (h4 : apart ≤ 3) : c.at_ f i many apart = if 0 ≤ i ∧ i < many then f + i * apart else -1 := by
  unfold Cfg.at_
  by_cases h : 0 ≤ i ∧ i < many
  · rw [if_pos ⟨ok, h.1, h.2⟩, if_pos h]
    have := mul_bd (a := i) (b := apart) (x := 100000) (y := 3) h.1 (by omega) h3 h4
    rw [wrap64_id (x := i * apart) (by omega) (by omega)]
    exact wrap64_id (by omega) (by omega)
  · rw [if_neg (fun x => h x.2), if_neg h]
theorem Cfg.at_not (c : Cfg) (ok : ¬ c.ok = true) (f i many apart : Int) : c.at_ f i many apart = -1 := by unfold Cfg.at_; rw [if_neg (fun x => ok x.1)]
theorem in_same (c : Cfg) (i : Int) : c.at_ 5 i c.muts 1 = c.refAt 1 i 0 := by
  by_cases ok : c.ok = true
  · obtain ⟨_, _, _, _, _, _, _, _⟩ := c.ok_iff.1 ok
    rw [c.at_ok ok _ _ _ _ (by omega) (by omega) (by omega) (by omega) (by omega)]
    unfold Cfg.refAt
    by_cases h : 0 ≤ i ∧ i < c.muts
    · rw [if_pos h, if_pos ⟨ok, h.1, by omega⟩]; simp; omega
    · rw [if_neg h]; by_cases h0 : 0 ≤ i
      · rw [if_pos ⟨ok, h0, by omega⟩]; simp; omega
      · rw [if_neg (by omega)]
  · rw [c.at_not ok]; unfold Cfg.refAt; rw [if_neg (fun x => ok x.1)]
theorem glob_same (c : Cfg) (i : Int) : c.at_ c.g0 i c.globs 1 = c.refAt 2 i 0 := by
  by_cases ok : c.ok = true
  · obtain ⟨e0, e1, e2⟩ := c.begin_ ok
    obtain ⟨_, _, _, _, _, _, _, _⟩ := c.ok_iff.1 ok
    rw [e0, c.at_ok ok _ _ _ _ (by omega) (by omega) (by omega) (by omega) (by omega)]
    unfold Cfg.refAt
    by_cases h : 0 ≤ i ∧ i < c.globs
    · rw [if_pos h, if_pos ⟨ok, h.1, by omega⟩]; simp; omega
    · rw [if_neg h]; by_cases h0 : 0 ≤ i
      · rw [if_pos ⟨ok, h0, by omega⟩]; simp; omega
      · rw [if_neg (by omega)]
  · rw [c.at_not ok]; unfold Cfg.refAt; rw [if_neg (fun x => ok x.1)]
theorem Cfg.reg_ok (c : Cfg) (ok : c.ok = true) (i r : Int) : c.reg_ i r = if 0 ≤ i ∧ i < c.muts ∧ 0 ≤ r ∧ r < c.regs then 5 + c.muts + c.globs + i * c.regs + r else -1 := by
  obtain ⟨e0, e1, e2⟩ := c.begin_ ok
  obtain ⟨_, _, _, _, _, _, _, _⟩ := c.ok_iff.1 ok
  unfold Cfg.reg_
  by_cases h : 0 ≤ i ∧ i < c.muts
  · have := mul_bd (a := i) (b := c.regs) (x := 63) (y := 64) (by omega) (by omega) (by omega) (by omega)
    rw [if_pos h, e1, wrap64_id (x := i * c.regs) (by omega) (by omega), wrap64_id (x := 5 + c.muts + c.globs + i * c.regs) (by omega) (by omega)]
    rw [c.at_ok ok _ _ _ _ (by omega) (by omega) (by omega) (by omega) (by omega)]
    by_cases hr : 0 ≤ r ∧ r < c.regs
    · rw [if_pos hr, if_pos ⟨h.1, h.2, hr.1, hr.2⟩]; omega
    · rw [if_neg hr, if_neg (fun x => hr ⟨x.2.2.1, x.2.2.2⟩)]
  · rw [if_neg h, if_neg (fun x => h ⟨x.1, x.2.1⟩)]
theorem reg_same (c : Cfg) (i r : Int) : c.reg_ i r = c.refAt 3 i r := by
  by_cases ok : c.ok = true
  · rw [c.reg_ok ok]
    unfold Cfg.refAt
    simp only [show ¬ (3 : Int) = 1 by omega, show ¬ (3 : Int) = 2 by omega, if_false, if_true, ok, true_and]
    by_cases h : 0 ≤ i ∧ 0 ≤ r
    · by_cases h2 : i < c.muts ∧ r < c.regs
      · rw [if_pos (show 0 ≤ i ∧ i < c.muts ∧ 0 ≤ r ∧ r < c.regs by omega), if_pos h, if_pos h2]
      · rw [if_neg (show ¬ (0 ≤ i ∧ i < c.muts ∧ 0 ≤ r ∧ r < c.regs) by omega), if_pos h, if_neg h2]
    · rw [if_neg (show ¬ (0 ≤ i ∧ i < c.muts ∧ 0 ≤ r ∧ r < c.regs) by omega), if_neg h]
  · have h1 : c.reg_ i r = -1 := by
      unfold Cfg.reg_
      split
      · exact c.at_not ok _ _ _ _
      · rfl
    rw [h1]
    unfold Cfg.refAt
    rw [if_neg (fun x => ok x.1)]
theorem cell_same (c : Cfg) (i d : Int) (hd : 0 ≤ d) (hd2 : d ≤ 2) : c.at_ (wrap64 (c.c0 + d)) i c.cells 3 = c.refAt (4 + d) i 0 := by
  by_cases ok : c.ok = true
  · obtain ⟨e0, e1, e2⟩ := c.begin_ ok
    obtain ⟨_, _⟩ := c.mr ok
    obtain ⟨_, _, _, _, _, _, _, _⟩ := c.ok_iff.1 ok
    rw [e2, wrap64_id (by omega) (by omega), c.at_ok ok _ _ _ _ (by omega) (by omega) (by omega) (by omega) (by omega)]
    unfold Cfg.refAt
    rw [if_neg (show ¬ (4 + d = 1) by omega), if_neg (show ¬ (4 + d = 2) by omega), if_neg (show ¬ (4 + d = 3) by omega)]
    by_cases h : 0 ≤ i ∧ i < c.cells
    · rw [if_pos h, if_pos ⟨ok, h.1, by omega⟩, if_pos h.2]; omega
    · rw [if_neg h]; by_cases h0 : 0 ≤ i
      · rw [if_pos ⟨ok, h0, by omega⟩, if_neg (by omega)]
      · rw [if_neg (by omega)]
  · rw [c.at_not ok]; unfold Cfg.refAt; rw [if_neg (fun x => ok x.1)]
theorem car_same (c : Cfg) (i : Int) : c.at_ c.c0 i c.cells 3 = c.refAt 4 i 0 := by
  have h := cell_same c i 0 (by omega) (by omega)
  have e : wrap64 (c.c0 + 0) = c.c0 := by
    unfold Cfg.c0
    rw [Int.add_zero]
    generalize c.r0 + wrap64 (c.muts * c.regs) = z
    unfold wrap64
    omega
  rw [e] at h
  exact h
theorem root_same (c : Cfg) (j : Int) (hj0 : -9223372036854775808 ≤ j) (hj1 : j ≤ 9223372036854775807) : c.root_ j = c.refRoot j := by
  by_cases ok : c.ok = true
  · obtain ⟨e0, e1, e2⟩ := c.begin_ ok
    obtain ⟨_, _⟩ := c.mr ok
    obtain ⟨_, _, _, _, _, _, _, _⟩ := c.ok_iff.1 ok
    have hrt : c.roots = 1 + c.globs + c.muts * c.regs := by unfold Cfg.roots; rw [if_pos ok]
    unfold Cfg.root_ Cfg.refRoot
    rw [hrt]
    by_cases hj : j = 0
    · subst hj
      rw [if_neg (fun x => x.2 rfl), c.at_ok ok _ _ _ _ (by omega) (by omega) (by omega) (by omega) (by omega)]
      rw [if_pos (by omega), if_pos (by omega), if_pos rfl]; rfl
    · rw [if_pos ⟨ok, hj⟩, e0, wrap64_id (x := c.muts * c.regs) (by omega) (by omega), wrap64_id (x := c.globs + c.muts * c.regs) (by omega) (by omega)]
      rw [c.at_ok ok _ _ _ _ (by omega) (by omega) (by omega) (by omega) (by omega)]
      by_cases hb : j = -9223372036854775808
      · have hw : wrap64 (j - 1) = 9223372036854775807 := by subst hb; decide +kernel
        rw [hw, if_neg (by omega), if_neg (by omega)]
      · rw [wrap64_id (x := j - 1) (by omega) (by omega)]
        by_cases h : 0 ≤ j ∧ j < 1 + c.globs + c.muts * c.regs
        · rw [if_pos (by omega), if_pos h, if_neg hj]; omega
        · rw [if_neg (by omega), if_neg h]
  · have hrt : c.roots = 0 := by unfold Cfg.roots; rw [if_neg ok]
    unfold Cfg.root_ Cfg.refRoot
    rw [if_neg (fun x => ok x.1), c.at_not ok, hrt, if_neg (by omega)]

/-! ### awake -/
def Cfg.one : Cfg := ⟨2, 1, 1, 0⟩
/-! ### PlaceTells -/
theorem cfg_same (w : World) (c : Cfg) : (binOp .neq 23 c.v c.v).run Tryd.prog w = .ok (.bool false) w := by
  simp [go_sem]
end Go.Proofs.YtipoklnoknkfhaaDoor
