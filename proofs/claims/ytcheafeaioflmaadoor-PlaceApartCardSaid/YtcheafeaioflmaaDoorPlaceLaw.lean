/- The laws of places: awake, PlaceTells: their walks. -/
import Derived.Test.YtcheafeaioflmaaDoorRef04
namespace Go.Proofs.YtcheafeaioflmaaDoor
open Go Go.RowKit
set_option linter.unusedSimpArgs false
set_option linter.unusedVariables false

/-! ### the plain law -/
theorem wrap64_id {x : Int} (h0 : -9223372036854775808 ≤ x) (h1 : x ≤ 9223372036854775807) : wrap64 x = x := by unfold wrap64; omega
theorem Cfg.begin_ (c : Cfg) (ok : c.ok = true) : c.g0 = 5 + c.muts ∧ c.r0 = 5 + c.muts + c.globs ∧ c.c0 = 5 + c.muts + c.globs + c.muts * c.regs := by
  obtain ⟨_, _⟩ := c.mr ok
  obtain ⟨_, _, _, _, _, _, _, _⟩ := c.ok_iff.1 ok
  have e0 : c.g0 = 5 + c.muts := wrap64_id (by omega) (by omega)
  have e1 : c.r0 = 5 + c.muts + c.globs := by unfold Cfg.r0; rw [e0]; exact wrap64_id (by omega) (by omega)
  refine ⟨e0, e1, ?_⟩
  unfold Cfg.c0
  rw [e1, wrap64_id (x := c.muts * c.regs) (by omega) (by omega)]
  exact wrap64_id (by omega) (by omega)
theorem Cfg.at_ok (c : Cfg) (ok : c.ok = true) (f i many apart : Int) (h0 : 0 ≤ f) (h1 : f ≤ 100000) (h2 : many ≤ 100000) (h3 : 0 ≤ apart) (h4 : apart ≤ 3) : c.at_ f i many apart = if 0 ≤ i ∧ i < many then f + i * apart else -1 := by
  unfold Cfg.at_
  by_cases h : 0 ≤ i ∧ i < many
  · rw [if_pos ⟨ok, h.1, h.2⟩, if_pos h]
    have := mul_bd (a := i) (b := apart) (x := 100000) (y := 3) h.1 (by omega) h3 h4
    rw [wrap64_id (x := i * apart) (by omega) (by omega)]
    exact wrap64_id (by omega) (by omega)
  · rw [if_neg (fun x => h x.2), if_neg h]
theorem Cfg.at_not (c : Cfg) (ok : ¬ c.ok = true) (f i many apart : Int) : c.at_ f i many apart = -1 := by unfold Cfg.at_; rw [if_neg (fun x => ok x.1)]
theorem in_same (c : Cfg) (i : Int) : c.at_ 5 i c.muts 1 = c.refAt 1 i 0 := by
  by_cases ok : c.ok = true
  · obtain ⟨_, _, _, _, _, _, _, _⟩ := c.ok_iff.1 ok
    rw [c.at_ok ok _ _ _ _ (by omega) (by omega) (by omega) (by omega) (by omega)]
    unfold Cfg.refAt
    by_cases h : 0 ≤ i ∧ i < c.muts
    · rw [if_pos h, if_pos ⟨ok, h.1, by omega⟩]; simp; omega
    · rw [if_neg h]; by_cases h0 : 0 ≤ i
      · rw [if_pos ⟨ok, h0, by omega⟩]; simp; omega
      · rw [if_neg (by omega)]
  · rw [c.at_not ok]; unfold Cfg.refAt; rw [if_neg (fun x => ok x.1)]
theorem glob_same (c : Cfg) (i : Int) : c.at_ c.g0 i c.globs 1 = c.refAt 2 i 0 := by
  by_cases ok : c.ok = true
  · obtain ⟨e0, e1, e2⟩ := c.begin_ ok
    obtain ⟨_, _, _, _, _, _, _, _⟩ := c.ok_iff.1 ok
    rw [e0, c.at_ok ok _ _ _ _ (by omega) (by omega) (by omega) (by omega) (by omega)]
    unfold Cfg.refAt
    by_cases h : 0 ≤ i ∧ i < c.globs
    · rw [if_pos h, if_pos ⟨ok, h.1, by omega⟩]; simp; omega
    · rw [if_neg h]; by_cases h0 : 0 ≤ i
      · rw [if_pos ⟨ok, h0, by omega⟩]; simp; omega
      · rw [if_neg (by omega)]
  · rw [c.at_not ok]; unfold Cfg.refAt; rw [if_neg (fun x => ok x.1)]
theorem Cfg.reg_ok (c : Cfg) (ok : c.ok = true) (i r : Int) : c.reg_ i r = if 0 ≤ i ∧ i < c.muts ∧ 0 ≤ r ∧ r < c.regs then 5 + c.muts + c.globs + i * c.regs + r else -1 := by
  obtain ⟨e0, e1, e2⟩ := c.begin_ ok
  obtain ⟨_, _, _, _, _, _, _, _⟩ := c.ok_iff.1 ok
  unfold Cfg.reg_
  by_cases h : 0 ≤ i ∧ i < c.muts
  · have := mul_bd (a := i) (b := c.regs) (x := 63) (y := 64) (by omega) (by omega) (by omega) (by omega)
    rw [if_pos h, e1, wrap64_id (x := i * c.regs) (by omega) (by omega), wrap64_id (x := 5 + c.muts + c.globs + i * c.regs) (by omega) (by omega)]
    rw [c.at_ok ok _ _ _ _ (by omega) (by omega) (by omega) (by omega) (by omega)]
    by_cases hr : 0 ≤ r ∧ r < c.regs
    · rw [if_pos hr, if_pos ⟨h.1, h.2, hr.1, hr.2⟩]; omega
    · rw [if_neg hr, if_neg (fun x => hr ⟨x.2.2.1, x.2.2.2⟩)]
  · rw [if_neg h, if_neg (fun x => h ⟨x.1, x.2.1⟩)]
theorem reg_same (c : Cfg) (i r : Int) : c.reg_ i r = c.refAt 3 i r := by
  by_cases ok : c.ok = true
  · rw [c.reg_ok ok]
    unfold Cfg.refAt
    simp only [show ¬ (3 : Int) = 1 by omega, show ¬ (3 : Int) = 2 by omega, if_false, if_true, ok, true_and]
    by_cases h : 0 ≤ i ∧ 0 ≤ r
    · by_cases h2 : i < c.muts ∧ r < c.regs
      · rw [if_pos (show 0 ≤ i ∧ i < c.muts ∧ 0 ≤ r ∧ r < c.regs by omega), if_pos h, if_pos h2]
      · rw [if_neg (show ¬ (0 ≤ i ∧ i < c.muts ∧ 0 ≤ r ∧ r < c.regs) by omega), if_pos h, if_neg h2]
    · rw [if_neg (show ¬ (0 ≤ i ∧ i < c.muts ∧ 0 ≤ r ∧ r < c.regs) by omega), if_neg h]
  · have h1 : c.reg_ i r = -1 := by
      unfold Cfg.reg_
      split
      · exact c.at_not ok _ _ _ _
      · rfl
    rw [h1]
    unfold Cfg.refAt
    rw [if_neg (fun x => ok x.1)]
theorem cell_same (c : Cfg) (i d : Int) (hd : 0 ≤ d) (hd2 : d ≤ 2) : c.at_ (wrap64 (c.c0 + d)) i c.cells 3 = c.refAt (4 + d) i 0 := by
  by_cases ok : c.ok = true
  · obtain ⟨e0, e1, e2⟩ := c.begin_ ok
    obtain ⟨_, _⟩ := c.mr ok
    obtain ⟨_, _, _, _, _, _, _, _⟩ := c.ok_iff.1 ok
    rw [e2, wrap64_id (by omega) (by omega), c.at_ok ok _ _ _ _ (by omega) (by omega) (by omega) (by omega) (by omega)]
    unfold Cfg.refAt
    rw [if_neg (show ¬ (4 + d = 1) by omega), if_neg (show ¬ (4 + d = 2) by omega), if_neg (show ¬ (4 + d = 3) by omega)]
    by_cases h : 0 ≤ i ∧ i < c.cells
    · rw [if_pos h, if_pos ⟨ok, h.1, by omega⟩, if_pos h.2]; omega
    · rw [if_neg h]; by_cases h0 : 0 ≤ i
      · rw [if_pos ⟨ok, h0, by omega⟩, if_neg (by omega)]
      · rw [if_neg (by omega)]
  · rw [c.at_not ok]; unfold Cfg.refAt; rw [if_neg (fun x => ok x.1)]
theorem car_same (c : Cfg) (i : Int) : c.at_ c.c0 i c.cells 3 = c.refAt 4 i 0 := by
  have h := cell_same c i 0 (by omega) (by omega)
  have e : wrap64 (c.c0 + 0) = c.c0 := by
    unfold Cfg.c0
    rw [Int.add_zero]
    generalize c.r0 + wrap64 (c.muts * c.regs) = z
    unfold wrap64
    omega
  rw [e] at h
  exact h
theorem root_same (c : Cfg) (j : Int) (hj0 : -9223372036854775808 ≤ j) (hj1 : j ≤ 9223372036854775807) : c.root_ j = c.refRoot j := by
  by_cases ok : c.ok = true
  · obtain ⟨e0, e1, e2⟩ := c.begin_ ok
    obtain ⟨_, _⟩ := c.mr ok
    obtain ⟨_, _, _, _, _, _, _, _⟩ := c.ok_iff.1 ok
    have hrt : c.roots = 1 + c.globs + c.muts * c.regs := by unfold Cfg.roots; rw [if_pos ok]
    unfold Cfg.root_ Cfg.refRoot
    rw [hrt]
    by_cases hj : j = 0
    · subst hj
      rw [if_neg (fun x => x.2 rfl), c.at_ok ok _ _ _ _ (by omega) (by omega) (by omega) (by omega) (by omega)]
      rw [if_pos (by omega), if_pos (by omega), if_pos rfl]; rfl
    · rw [if_pos ⟨ok, hj⟩, e0, wrap64_id (x := c.muts * c.regs) (by omega) (by omega), wrap64_id (x := c.globs + c.muts * c.regs) (by omega) (by omega)]
      rw [c.at_ok ok _ _ _ _ (by omega) (by omega) (by omega) (by omega) (by omega)]
      by_cases hb : j = -9223372036854775808
      · have hw : wrap64 (j - 1) = 9223372036854775807 := by subst hb; decide +kernel
        rw [hw, if_neg (by omega), if_neg (by omega)]
      · rw [wrap64_id (x := j - 1) (by omega) (by omega)]
        by_cases h : 0 ≤ j ∧ j < 1 + c.globs + c.muts * c.regs
        · rw [if_pos (by omega), if_pos h, if_neg hj]; omega
        · rw [if_neg (by omega), if_neg h]
  · have hrt : c.roots = 0 := by unfold Cfg.roots; rw [if_neg ok]
    unfold Cfg.root_ Cfg.refRoot
    rw [if_neg (fun x => ok x.1), c.at_not ok, hrt, if_neg (by omega)]

/-! ### awake -/
def Cfg.one : Cfg := ⟨2, 1, 1, 0⟩
theorem place_awake (w : World) : Calls Tryd.prog 47 #[] w fun e w' => e = .returned (.bool true) ∧ Below w.heap.size w w' := by
  have e1 : Cfg.one.at_ 5 0 Cfg.one.muts 1 = 5 := by decide +kernel
  have e2 : Cfg.one.reg_ 0 0 = 6 := by decide +kernel
  have e3 : Cfg.one.at_ Cfg.one.c0 0 Cfg.one.cells 3 = 7 := by decide +kernel
  have e4 : Cfg.one.at_ (wrap64 (Cfg.one.c0 + 2)) 1 Cfg.one.cells 3 = 12 := by decide +kernel
  have e5 : Cfg.one.map = Cfg.one := by decide
  have e6 : Cfg.one.err = 0 := by decide
  have E1 := Lib.hid e1
  have E2 := Lib.hid e2
  have E3 := Lib.hid e3
  have E4 := Lib.hid e4
  have E5 := Lib.hid e5
  have E6 := Lib.hid e6
  clear e1 e2 e3 e4 e5 e6
  go_enter Tryd.func47, Tryd.ntmps47
  go_wp2_with fail
  refine (pnew_any w Cfg.one).mono ?_
  rintro e w1 ⟨rfl, hb⟩
  rw [E5.out, E6.out]
  have HB1 := Lib.hid hb
  clear hb
  unfold Cfg.one
  go_wp2_with fail
  have hlt1 : w1.heap.size < (w1.alloc Cfg.one.mobj).heap.size := by simp
  have hB : Below w.heap.size w (w1.alloc Cfg.one.mobj) := HB1.out.alloc HB1.out.size _
  have HB := Lib.hid hB
  clear hB
  refine (in_any _ Cfg.one 0).mono ?_
  rintro e w2 ⟨rfl, hb⟩
  rw [E1.out]
  have HB2 : Hid (Below w.heap.size w w2) := HB.out.trans (hb.mono HB.out.size)
  have hlt2 : w1.heap.size < w2.heap.size := Nat.lt_of_lt_of_le hlt1 hb.size
  have hbk2 : w2.heap[w1.heap.size]? = some Cfg.one.mobj := (hb.block w1.heap.size hlt1).trans (heap_alloc_new w1 Cfg.one.mobj)
  obtain ⟨k0, k1, k2, k3⟩ := Cfg.mcells_at hbk2
  unfold Cfg.one at k0 k1 k2 k3
  have HK2 := Lib.hid hbk2
  clear hb hbk2
  go_wp2_with fail
  clear k0 k1 k2 k3
  refine (reg_any _ Cfg.one 0 0).mono ?_
  rintro e w3 ⟨rfl, hb⟩
  rw [E2.out]
  have HB3 : Hid (Below w.heap.size w w3) := HB2.out.trans (hb.mono HB2.out.size)
  have hlt3 : w1.heap.size < w3.heap.size := Nat.lt_of_lt_of_le hlt2 hb.size
  have hbk3 : w3.heap[w1.heap.size]? = some Cfg.one.mobj := (hb.block w1.heap.size hlt2).trans HK2.out
  obtain ⟨k0, k1, k2, k3⟩ := Cfg.mcells_at hbk3
  unfold Cfg.one at k0 k1 k2 k3
  have HK3 := Lib.hid hbk3
  clear hb hbk3
  go_wp2_with fail
  clear k0 k1 k2 k3
  refine (car_any _ Cfg.one 0).mono ?_
  rintro e w4 ⟨rfl, hb⟩
  rw [E3.out]
  have HB4 : Hid (Below w.heap.size w w4) := HB3.out.trans (hb.mono HB3.out.size)
  have hlt4 : w1.heap.size < w4.heap.size := Nat.lt_of_lt_of_le hlt3 hb.size
  have hbk4 : w4.heap[w1.heap.size]? = some Cfg.one.mobj := (hb.block w1.heap.size hlt3).trans HK3.out
  obtain ⟨k0, k1, k2, k3⟩ := Cfg.mcells_at hbk4
  unfold Cfg.one at k0 k1 k2 k3
  have HK4 := Lib.hid hbk4
  clear hb hbk4
  go_wp2_with fail
  clear k0 k1 k2 k3
  refine (colour_any _ Cfg.one 1).mono ?_
  rintro e w5 ⟨rfl, hb⟩
  rw [E4.out]
  have HB5 : Hid (Below w.heap.size w w5) := HB4.out.trans (hb.mono HB4.out.size)
  clear hb
  go_wp2_with fail
  go_ret
  exact ⟨rfl, HB5.out⟩

/-! ### PlaceTells -/
theorem cfg_same (w : World) (c : Cfg) : (binOp .neq 23 c.v c.v).run Tryd.prog w = .ok (.bool false) w := by
  simp [go_sem]
end Go.Proofs.YtcheafeaioflmaaDoor
