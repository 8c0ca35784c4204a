/- The contracts of place's calls: In, Glob, Reg, Car, Cdr, Colour, Root. -/
import Derived.Test.YtoapbfglpcebmaaPlace
namespace Go.Proofs.Ytoapbfglpcebmaa
open Go Go.RowKit
set_option linter.unusedSimpArgs false
set_option linter.unusedVariables false

theorem i64_w (x : Int) : IntKind.i64.wrap x = wrap64 x := by unfold wrap64; exact IntKind.wrap_i64 x
/-- where globals, registers and cells begin -/
def Cfg.g0 (c : Cfg) : Int := wrap64 (5 + c.muts)
def Cfg.r0 (c : Cfg) : Int := wrap64 (c.g0 + c.globs)
def Cfg.c0 (c : Cfg) : Int := wrap64 (c.r0 + wrap64 (c.muts * c.regs))

theorem globs_any (w : World) (c : Cfg) :
    Calls Try.prog 42 #[c.v] w fun e w' => e = .returned (.int .i64 (c.g0)) ∧ Below w.heap.size w w' := by
  obtain ⟨k0, k1, k2, k3⟩ := Cfg.mcells_at (heap_alloc_new w c.mobj)
  have HB0 : Hid (Below w.heap.size w (w.alloc c.mobj)) := (Below.refl _ _).alloc (Nat.le_refl _) _
  go_enter Try.func42, Try.ntmps42
  go_wp2_with fail
  go_ret
  exact ⟨rfl, HB0.out⟩

theorem regs_any (w : World) (c : Cfg) :
    Calls Try.prog 43 #[c.v] w fun e w' => e = .returned (.int .i64 (c.r0)) ∧ Below w.heap.size w w' := by
  obtain ⟨k0, k1, k2, k3⟩ := Cfg.mcells_at (heap_alloc_new w c.mobj)
  have HB0 : Hid (Below w.heap.size w (w.alloc c.mobj)) := (Below.refl _ _).alloc (Nat.le_refl _) _
  go_enter Try.func43, Try.ntmps43
  go_wp2_with fail
  go_region_held3 (fun w' => w'.cell? ⟨w.heap.size, 0, none⟩ = some (.int .i64 c.cells) ∧ w'.cell? ⟨w.heap.size, 1, none⟩ = some (.int .i64 c.muts) ∧ w'.cell? ⟨w.heap.size, 2, none⟩ = some (.int .i64 c.regs) ∧ w'.cell? ⟨w.heap.size, 3, none⟩ = some (.int .i64 c.globs) ∧ w.heap.size + 1 ≤ w'.heap.size ∧ Below (w.heap.size + 1) (w.alloc c.mobj) w')
      (first
        | exact ⟨k0, k1, k2, k3, by simp, (Below.refl _ _).drew⟩
        | (go_split_ands; refine ⟨?_, ?_, ?_, ?_, ?_, ?_⟩ <;> first | (rw [hb2.cell (by first | (simp; done) | (simp; omega))]; assumption) | exact Below.trans (by assumption) (hb2.mono (by first | assumption | (simp; done) | (simp at *; omega))) | exact Nat.le_trans (by first | assumption | (simp; done) | (simp at *; omega)) hb2.size))
      (first | (go_at_call 42; refine (globs_any _ c).mono ?_; rintro e w2 ⟨rfl, hb2⟩))
  all_goals
    go_wp2_with fail
    go_ret
    go_split_ands
    exact ⟨by first | rfl | (simp only [i64_w]; rfl), HB0.out.trans (Below.mono (by assumption) (Nat.le_succ _))⟩

theorem cells_any (w : World) (c : Cfg) :
    Calls Try.prog 64 #[c.v] w fun e w' => e = .returned (.int .i64 (c.c0)) ∧ Below w.heap.size w w' := by
  obtain ⟨k0, k1, k2, k3⟩ := Cfg.mcells_at (heap_alloc_new w c.mobj)
  have HB0 : Hid (Below w.heap.size w (w.alloc c.mobj)) := (Below.refl _ _).alloc (Nat.le_refl _) _
  go_enter Try.func64, Try.ntmps64
  go_wp2_with fail
  go_region_held3 (fun w' => w'.cell? ⟨w.heap.size, 0, none⟩ = some (.int .i64 c.cells) ∧ w'.cell? ⟨w.heap.size, 1, none⟩ = some (.int .i64 c.muts) ∧ w'.cell? ⟨w.heap.size, 2, none⟩ = some (.int .i64 c.regs) ∧ w'.cell? ⟨w.heap.size, 3, none⟩ = some (.int .i64 c.globs) ∧ w.heap.size + 1 ≤ w'.heap.size ∧ Below (w.heap.size + 1) (w.alloc c.mobj) w')
      (first
        | exact ⟨k0, k1, k2, k3, by simp, (Below.refl _ _).drew⟩
        | (go_split_ands; refine ⟨?_, ?_, ?_, ?_, ?_, ?_⟩ <;> first | (rw [hb2.cell (by first | (simp; done) | (simp; omega))]; assumption) | exact Below.trans (by assumption) (hb2.mono (by first | assumption | (simp; done) | (simp at *; omega))) | exact Nat.le_trans (by first | assumption | (simp; done) | (simp at *; omega)) hb2.size))
      (first | (go_at_call 43; refine (regs_any _ c).mono ?_; rintro e w2 ⟨rfl, hb2⟩))
  all_goals
    go_wp2_with fail
    go_ret
    go_split_ands
    exact ⟨by first | rfl | (simp only [i64_w]; rfl), HB0.out.trans (Below.mono (by assumption) (Nat.le_succ _))⟩

theorem in_any (w : World) (c : Cfg) (i : Int) :
    Calls Try.prog 36 #[c.v, .int .i64 i] w fun e w' => e = .returned (.int .i64 (c.at_ 5 i c.muts 1)) ∧ Below w.heap.size w w' := by
  obtain ⟨k0, k1, k2, k3⟩ := Cfg.mcells_at (heap_alloc_new w c.mobj)
  have HB0 : Hid (Below w.heap.size w (w.alloc c.mobj)) := (Below.refl _ _).alloc (Nat.le_refl _) _
  go_enter Try.func36, Try.ntmps36
  go_wp2_with fail
  refine (mat_any _ c _ _ _ _).mono ?_
  rintro e w1 ⟨rfl, hb⟩
  have HB : Hid (Below w.heap.size w w1) := HB0.out.trans (hb.mono (by simp))
  clear hb
  go_wp2_with fail
  go_ret
  exact ⟨rfl, HB.out⟩

theorem glob_any (w : World) (c : Cfg) (i : Int) :
    Calls Try.prog 12 #[c.v, .int .i64 i] w fun e w' => e = .returned (.int .i64 (c.at_ c.g0 i c.globs 1)) ∧ Below w.heap.size w w' := by
  obtain ⟨k0, k1, k2, k3⟩ := Cfg.mcells_at (heap_alloc_new w c.mobj)
  have HB0 : Hid (Below w.heap.size w (w.alloc c.mobj)) := (Below.refl _ _).alloc (Nat.le_refl _) _
  go_enter Try.func12, Try.ntmps12
  go_wp2_with fail
  go_region_held3 (fun w' => w'.cell? ⟨w.heap.size, 0, none⟩ = some (.int .i64 c.cells) ∧ w'.cell? ⟨w.heap.size, 1, none⟩ = some (.int .i64 c.muts) ∧ w'.cell? ⟨w.heap.size, 2, none⟩ = some (.int .i64 c.regs) ∧ w'.cell? ⟨w.heap.size, 3, none⟩ = some (.int .i64 c.globs) ∧ w.heap.size + 1 ≤ w'.heap.size ∧ Below (w.heap.size + 1) (w.alloc c.mobj) w')
      (first
        | exact ⟨k0, k1, k2, k3, by simp, (Below.refl _ _).drew⟩
        | (go_split_ands; refine ⟨?_, ?_, ?_, ?_, ?_, ?_⟩ <;> first | (rw [hb2.cell (by first | (simp; done) | (simp; omega))]; assumption) | exact Below.trans (by assumption) (hb2.mono (by first | assumption | (simp; done) | (simp at *; omega))) | exact Nat.le_trans (by first | assumption | (simp; done) | (simp at *; omega)) hb2.size))
      (first | (go_at_call 42; refine (globs_any _ c).mono ?_; rintro e w2 ⟨rfl, hb2⟩) | (go_at_call 41; refine (mat_any _ c _ _ _ _).mono ?_; rintro e w2 ⟨rfl, hb2⟩))
  all_goals
    go_wp2_with fail
    go_ret
    go_split_ands
    exact ⟨by first | rfl | (simp only [i64_w]; rfl), HB0.out.trans (Below.mono (by assumption) (Nat.le_succ _))⟩

theorem car_any (w : World) (c : Cfg) (i : Int) :
    Calls Try.prog 37 #[c.v, .int .i64 i] w fun e w' => e = .returned (.int .i64 (c.at_ c.c0 i c.cells 3)) ∧ Below w.heap.size w w' := by
  obtain ⟨k0, k1, k2, k3⟩ := Cfg.mcells_at (heap_alloc_new w c.mobj)
  have HB0 : Hid (Below w.heap.size w (w.alloc c.mobj)) := (Below.refl _ _).alloc (Nat.le_refl _) _
  go_enter Try.func37, Try.ntmps37
  go_wp2_with fail
  go_region_held3 (fun w' => w'.cell? ⟨w.heap.size, 0, none⟩ = some (.int .i64 c.cells) ∧ w'.cell? ⟨w.heap.size, 1, none⟩ = some (.int .i64 c.muts) ∧ w'.cell? ⟨w.heap.size, 2, none⟩ = some (.int .i64 c.regs) ∧ w'.cell? ⟨w.heap.size, 3, none⟩ = some (.int .i64 c.globs) ∧ w.heap.size + 1 ≤ w'.heap.size ∧ Below (w.heap.size + 1) (w.alloc c.mobj) w')
      (first
        | exact ⟨k0, k1, k2, k3, by simp, (Below.refl _ _).drew⟩
        | (go_split_ands; refine ⟨?_, ?_, ?_, ?_, ?_, ?_⟩ <;> first | (rw [hb2.cell (by first | (simp; done) | (simp; omega))]; assumption) | exact Below.trans (by assumption) (hb2.mono (by first | assumption | (simp; done) | (simp at *; omega))) | exact Nat.le_trans (by first | assumption | (simp; done) | (simp at *; omega)) hb2.size))
      (first | (go_at_call 64; refine (cells_any _ c).mono ?_; rintro e w2 ⟨rfl, hb2⟩) | (go_at_call 41; refine (mat_any _ c _ _ _ _).mono ?_; rintro e w2 ⟨rfl, hb2⟩))
  all_goals
    go_wp2_with fail
    go_ret
    go_split_ands
    exact ⟨by first | rfl | (simp only [i64_w]; rfl), HB0.out.trans (Below.mono (by assumption) (Nat.le_succ _))⟩

theorem colour_any (w : World) (c : Cfg) (i : Int) :
    Calls Try.prog 38 #[c.v, .int .i64 i] w fun e w' => e = .returned (.int .i64 (c.at_ (wrap64 (c.c0 + 2)) i c.cells 3)) ∧ Below w.heap.size w w' := by
  obtain ⟨k0, k1, k2, k3⟩ := Cfg.mcells_at (heap_alloc_new w c.mobj)
  have HB0 : Hid (Below w.heap.size w (w.alloc c.mobj)) := (Below.refl _ _).alloc (Nat.le_refl _) _
  go_enter Try.func38, Try.ntmps38
  go_wp2_with fail
  go_region_held3 (fun w' => w'.cell? ⟨w.heap.size, 0, none⟩ = some (.int .i64 c.cells) ∧ w'.cell? ⟨w.heap.size, 1, none⟩ = some (.int .i64 c.muts) ∧ w'.cell? ⟨w.heap.size, 2, none⟩ = some (.int .i64 c.regs) ∧ w'.cell? ⟨w.heap.size, 3, none⟩ = some (.int .i64 c.globs) ∧ w.heap.size + 1 ≤ w'.heap.size ∧ Below (w.heap.size + 1) (w.alloc c.mobj) w')
      (first
        | exact ⟨k0, k1, k2, k3, by simp, (Below.refl _ _).drew⟩
        | (go_split_ands; refine ⟨?_, ?_, ?_, ?_, ?_, ?_⟩ <;> first | (rw [hb2.cell (by first | (simp; done) | (simp; omega))]; assumption) | exact Below.trans (by assumption) (hb2.mono (by first | assumption | (simp; done) | (simp at *; omega))) | exact Nat.le_trans (by first | assumption | (simp; done) | (simp at *; omega)) hb2.size))
      (first | (go_at_call 64; refine (cells_any _ c).mono ?_; rintro e w2 ⟨rfl, hb2⟩) | (go_at_call 41; refine (mat_any _ c _ _ _ _).mono ?_; rintro e w2 ⟨rfl, hb2⟩))
  all_goals
    go_wp2_with fail
    go_ret
    go_split_ands
    exact ⟨by first | rfl | (simp only [i64_w]; rfl), HB0.out.trans (Below.mono (by assumption) (Nat.le_succ _))⟩

/-- a register's place -/
def Cfg.reg_ (c : Cfg) (i r : Int) : Int := if 0 ≤ i ∧ i < c.muts then c.at_ (wrap64 (c.r0 + wrap64 (i * c.regs))) r c.regs 1 else -1
theorem reg_any (w : World) (c : Cfg) (i r : Int) :
    Calls Try.prog 13 #[c.v, .int .i64 i, .int .i64 r] w fun e w' => e = .returned (.int .i64 (c.reg_ i r)) ∧ Below w.heap.size w w' := by
  obtain ⟨k0, k1, k2, k3⟩ := Cfg.mcells_at (heap_alloc_new w c.mobj)
  have HB0 : Hid (Below w.heap.size w (w.alloc c.mobj)) := (Below.refl _ _).alloc (Nat.le_refl _) _
  by_cases h0 : i < 0
  · have d0 : decide (i < 0) = true := by simpa using h0
    have hr : Hid (c.reg_ i r = -1) := by unfold Cfg.reg_ Hid; rw [if_neg (by omega)]
    clear h0
    go_enter Try.func13, Try.ntmps13
    go_wp2_with fail
    go_ret
    exact ⟨by rw [hr.out]; rfl, HB0.out⟩
  · have d0 : decide (i < 0) = false := by simpa using h0
    by_cases h1 : c.muts ≤ i
    · have d1 : decide (c.muts ≤ i) = true := by simpa using h1
      have hr : Hid (c.reg_ i r = -1) := by unfold Cfg.reg_ Hid; rw [if_neg (by omega)]
      clear h0 h1
      go_enter Try.func13, Try.ntmps13
      go_wp2_with fail
      go_ret
      exact ⟨by rw [hr.out]; rfl, HB0.out⟩
    · have d1 : decide (c.muts ≤ i) = false := by simpa using h1
      have hr : Hid (c.reg_ i r = c.at_ (wrap64 (c.r0 + wrap64 (i * c.regs))) r c.regs 1) := by unfold Cfg.reg_ Hid; rw [if_pos (by omega)]
      clear h0 h1
      go_enter Try.func13, Try.ntmps13
      go_wp2_with fail
      go_region_held3 (fun w' => w'.cell? ⟨w.heap.size, 0, none⟩ = some (.int .i64 c.cells) ∧ w'.cell? ⟨w.heap.size, 1, none⟩ = some (.int .i64 c.muts) ∧ w'.cell? ⟨w.heap.size, 2, none⟩ = some (.int .i64 c.regs) ∧ w'.cell? ⟨w.heap.size, 3, none⟩ = some (.int .i64 c.globs) ∧ w.heap.size + 1 ≤ w'.heap.size ∧ Below (w.heap.size + 1) (w.alloc c.mobj) w')
      (first
        | exact ⟨k0, k1, k2, k3, by simp, (Below.refl _ _).drew⟩
        | (go_split_ands; refine ⟨?_, ?_, ?_, ?_, ?_, ?_⟩ <;> first | (rw [hb2.cell (by first | (simp; done) | (simp; omega))]; assumption) | exact Below.trans (by assumption) (hb2.mono (by first | assumption | (simp; done) | (simp at *; omega))) | exact Nat.le_trans (by first | assumption | (simp; done) | (simp at *; omega)) hb2.size))
      (first | (go_at_call 43; refine (regs_any _ c).mono ?_; rintro e w2 ⟨rfl, hb2⟩) | (go_at_call 41; refine (mat_any _ c _ _ _ _).mono ?_; rintro e w2 ⟨rfl, hb2⟩))
      all_goals
        go_wp2_with fail
        go_ret
        go_split_ands
        exact ⟨by rw [hr.out]; simp only [i64_w]; rfl, HB0.out.trans (Below.mono (by assumption) (Nat.le_succ _))⟩

/-- a root's place -/
def Cfg.root_ (c : Cfg) (j : Int) : Int := if c.ok = true ∧ ¬ j = 0 then c.at_ c.g0 (wrap64 (j - 1)) (wrap64 (c.globs + wrap64 (c.muts * c.regs))) 1 else c.at_ 0 j 1 1
theorem root_any (w : World) (c : Cfg) (j : Int) :
    Calls Try.prog 11 #[c.v, .int .i64 j] w fun e w' => e = .returned (.int .i64 (c.root_ j)) ∧ Below w.heap.size w w' := by
  obtain ⟨k0, k1, k2, k3⟩ := Cfg.mcells_at (heap_alloc_new w c.mobj)
  have HB0 : Hid (Below w.heap.size w (w.alloc c.mobj)) := (Below.refl _ _).alloc (Nat.le_refl _) _
  have HS := Lib.hid (size_any (w.alloc c.mobj) c)
  by_cases hn : c.ok = true ∧ ¬ j = 0
  · have hr : Hid (c.root_ j = c.at_ c.g0 (wrap64 (j - 1)) (wrap64 (c.globs + wrap64 (c.muts * c.regs))) 1) := by unfold Cfg.root_ Hid; rw [if_pos hn]
    have e1 : (c.words == 0) = false := by have := c.words_pos hn.1; rw [beq_eq_false_iff_ne]; omega
    have e2 : (j == 0) = false := by rw [beq_eq_false_iff_ne]; exact hn.2
    clear hn
    go_enter Try.func11, Try.ntmps11
    go_wp2_with fail
    refine HS.out.mono ?_
    rintro e w1 ⟨rfl, hb⟩
    have HB : Hid (Below w.heap.size w w1) := HB0.out.trans (hb.mono (by simp))
    have hs : w.heap.size + 1 ≤ w1.heap.size := by have := hb.size; simpa using this
    have hbk : w1.heap[w.heap.size]? = some c.mobj := (hb.block w.heap.size (by simp)).trans (heap_alloc_new w c.mobj)
    obtain ⟨k0, k1, k2, k3⟩ := Cfg.mcells_at hbk
    clear hb hbk
    go_wp2_with fail
    go_region_held3 (fun w' => w'.cell? ⟨w.heap.size, 0, none⟩ = some (.int .i64 c.cells) ∧ w'.cell? ⟨w.heap.size, 1, none⟩ = some (.int .i64 c.muts) ∧ w'.cell? ⟨w.heap.size, 2, none⟩ = some (.int .i64 c.regs) ∧ w'.cell? ⟨w.heap.size, 3, none⟩ = some (.int .i64 c.globs) ∧ w.heap.size + 1 ≤ w'.heap.size ∧ Below (w.heap.size + 1) w1 w')
      (first
        | exact ⟨k0, k1, k2, k3, hs, (Below.refl _ _).drew⟩
        | (go_split_ands; refine ⟨?_, ?_, ?_, ?_, ?_, ?_⟩ <;> first | (rw [hb2.cell (by first | (simp; done) | (simp; omega))]; assumption) | exact Below.trans (by assumption) (hb2.mono (by first | assumption | (simp; done) | (simp at *; omega))) | exact Nat.le_trans (by first | assumption | (simp; done) | (simp at *; omega)) hb2.size))
      (first | (go_at_call 42; refine (globs_any _ c).mono ?_; rintro e w2 ⟨rfl, hb2⟩) | (go_at_call 41; refine (mat_any _ c _ _ _ _).mono ?_; rintro e w2 ⟨rfl, hb2⟩))
    all_goals
      go_wp2_with fail
      go_ret
      go_split_ands
      exact ⟨by rw [hr.out]; simp only [i64_w]; rfl, HB.out.trans (Below.mono (by assumption) (Nat.le_succ _))⟩
  · have hr : Hid (c.root_ j = c.at_ 0 j 1 1) := by unfold Cfg.root_ Hid; rw [if_neg hn]
    have HM := Lib.hid (fun W => mat_any W c 0 j 1 1)
    by_cases ok : c.ok = true
    · have e2 : (j == 0) = true := by rw [beq_iff_eq]; exact Classical.byContradiction fun h => hn ⟨ok, h⟩
      have e1 : (c.words == 0) = false := by have := c.words_pos ok; rw [beq_eq_false_iff_ne]; omega
      clear hn ok
      go_enter Try.func11, Try.ntmps11
      go_wp2_with fail
      refine HS.out.mono ?_
      rintro e w1 ⟨rfl, hb⟩
      have HB : Hid (Below w.heap.size w w1) := HB0.out.trans (hb.mono (by simp))
      have hbk : w1.heap[w.heap.size]? = some c.mobj := (hb.block w.heap.size (by simp)).trans (heap_alloc_new w c.mobj)
      obtain ⟨k0, k1, k2, k3⟩ := Cfg.mcells_at hbk
      clear hb hbk
      go_wp2_with (go_at_call 41; refine (HM.out _).mono ?_; rintro e w2 ⟨rfl, hb2⟩)
      go_ret
      exact ⟨by rw [hr.out]; rfl, HB.out.trans (hb2.mono HB.out.size)⟩
    · have e1 : (c.words == 0) = true := by rw [c.words_zero ok]; rfl
      clear hn ok
      go_enter Try.func11, Try.ntmps11
      go_wp2_with fail
      refine HS.out.mono ?_
      rintro e w1 ⟨rfl, hb⟩
      have HB : Hid (Below w.heap.size w w1) := HB0.out.trans (hb.mono (by simp))
      have hbk : w1.heap[w.heap.size]? = some c.mobj := (hb.block w.heap.size (by simp)).trans (heap_alloc_new w c.mobj)
      obtain ⟨k0, k1, k2, k3⟩ := Cfg.mcells_at hbk
      clear hb hbk
      go_wp2_with (go_at_call 41; refine (HM.out _).mono ?_; rintro e w2 ⟨rfl, hb2⟩)
      go_ret
      exact ⟨by rw [hr.out]; rfl, HB.out.trans (hb2.mono HB.out.size)⟩
end Go.Proofs.Ytoapbfglpcebmaa
