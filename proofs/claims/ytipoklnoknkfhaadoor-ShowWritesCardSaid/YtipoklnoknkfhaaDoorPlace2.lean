/- The contracts of place's calls: In, Glob, Reg, Car, Cdr, Colour, Root. -/
import Derived.Test.YtipoklnoknkfhaaDoorPlace
namespace Go.Proofs.YtipoklnoknkfhaaDoor
open Go Go.RowKit
set_option linter.unusedSimpArgs false
set_option linter.unusedVariables false

theorem i64_w (x : Int) : IntKind.i64.wrap x = wrap64 x := by unfold wrap64; exact IntKind.wrap_i64 x
/-- where globals, registers and cells begin -/
def Cfg.g0 (c : Cfg) : Int := wrap64 (5 + c.muts)
def Cfg.r0 (c : Cfg) : Int := wrap64 (c.g0 + c.globs)
def Cfg.c0 (c : Cfg) : Int := wrap64 (c.r0 + wrap64 (c.muts * c.regs))

theorem globs_any (w : World) (c : Cfg) :
    Calls Tryd.prog 119 #[c.v] w fun e w' => e = .returned (.int .i64 (c.g0)) ∧ Below w.heap.size w w' := by
  obtain ⟨k0, k1, k2, k3⟩ := Cfg.mcells_at (heap_alloc_new w c.mobj)
  have HB0 : Hid (Below w.heap.size w (w.alloc c.mobj)) := (Below.refl _ _).alloc (Nat.le_refl _) _
  go_enter Tryd.func119, Tryd.ntmps119
  go_wp2_with fail
  go_ret
  exact ⟨rfl, HB0.out⟩

theorem regs_any (w : World) (c : Cfg) :
    Calls Tryd.prog 87 #[c.v] w fun e w' => e = .returned (.int .i64 (c.r0)) ∧ Below w.heap.size w w' := by
  obtain ⟨k0, k1, k2, k3⟩ := Cfg.mcells_at (heap_alloc_new w c.mobj)
  have HB0 : Hid (Below w.heap.size w (w.alloc c.mobj)) := (Below.refl _ _).alloc (Nat.le_refl _) _
  go_enter Tryd.func87, Tryd.ntmps87
  go_wp2_with fail
  go_region_held3 (fun w' => w'.cell? ⟨w.heap.size, 0, none⟩ = some (.int .i64 c.cells) ∧ w'.cell? ⟨w.heap.size, 1, none⟩ = some (.int .i64 c.muts) ∧ w'.cell? ⟨w.heap.size, 2, none⟩ = some (.int .i64 c.regs) ∧ w'.cell? ⟨w.heap.size, 3, none⟩ = some (.int .i64 c.globs) ∧ w.heap.size + 1 ≤ w'.heap.size ∧ Below (w.heap.size + 1) (w.alloc c.mobj) w')
      (first
        | exact ⟨k0, k1, k2, k3, by simp, (Below.refl _ _).drew⟩
        | (go_split_ands; refine ⟨?_, ?_, ?_, ?_, ?_, ?_⟩ <;> first | (rw [hb2.cell (by first | (simp; done) | (simp; omega))]; assumption) | exact Below.trans (by assumption) (hb2.mono (by first | assumption | (simp; done) | (simp at *; omega))) | exact Nat.le_trans (by first | assumption | (simp; done) | (simp at *; omega)) hb2.size))
      (first | (go_at_call 119; refine (globs_any _ c).mono ?_; rintro e w2 ⟨rfl, hb2⟩))
  all_goals
    go_wp2_with fail
    go_ret
    go_split_ands
    exact ⟨by first | rfl | (simp only [i64_w]; rfl), HB0.out.trans (Below.mono (by assumption) (Nat.le_succ _))⟩

theorem cells_any (w : World) (c : Cfg) :
    Calls Tryd.prog 198 #[c.v] w fun e w' => e = .returned (.int .i64 (c.c0)) ∧ Below w.heap.size w w' := by
  obtain ⟨k0, k1, k2, k3⟩ := Cfg.mcells_at (heap_alloc_new w c.mobj)
  have HB0 : Hid (Below w.heap.size w (w.alloc c.mobj)) := (Below.refl _ _).alloc (Nat.le_refl _) _
  go_enter Tryd.func198, Tryd.ntmps198
  go_wp2_with fail
  go_region_held3 (fun w' => w'.cell? ⟨w.heap.size, 0, none⟩ = some (.int .i64 c.cells) ∧ w'.cell? ⟨w.heap.size, 1, none⟩ = some (.int .i64 c.muts) ∧ w'.cell? ⟨w.heap.size, 2, none⟩ = some (.int .i64 c.regs) ∧ w'.cell? ⟨w.heap.size, 3, none⟩ = some (.int .i64 c.globs) ∧ w.heap.size + 1 ≤ w'.heap.size ∧ Below (w.heap.size + 1) (w.alloc c.mobj) w')
      (first
        | exact ⟨k0, k1, k2, k3, by simp, (Below.refl _ _).drew⟩
        | (go_split_ands; refine ⟨?_, ?_, ?_, ?_, ?_, ?_⟩ <;> first | (rw [hb2.cell (by first | (simp; done) | (simp; omega))]; assumption) | exact Below.trans (by assumption) (hb2.mono (by first | assumption | (simp; done) | (simp at *; omega))) | exact Nat.le_trans (by first | assumption | (simp; done) | (simp at *; omega)) hb2.size))
      (first | (go_at_call 87; refine (regs_any _ c).mono ?_; rintro e w2 ⟨rfl, hb2⟩))
  all_goals
    go_wp2_with fail
    go_ret
    go_split_ands
    exact ⟨by first | rfl | (simp only [i64_w]; rfl), HB0.out.trans (Below.mono (by assumption) (Nat.le_succ _))⟩

theorem car_any (w : World) (c : Cfg) (i : Int) :
    Calls Tryd.prog 196 #[c.v, .int .i64 i] w fun e w' => e = .returned (.int .i64 (c.at_ c.c0 i c.cells 3)) ∧ Below w.heap.size w w' := by
  obtain ⟨k0, k1, k2, k3⟩ := Cfg.mcells_at (heap_alloc_new w c.mobj)
  have HB0 : Hid (Below w.heap.size w (w.alloc c.mobj)) := (Below.refl _ _).alloc (Nat.le_refl _) _
  go_enter Tryd.func196, Tryd.ntmps196
  go_wp2_with fail
  go_region_held3 (fun w' => w'.cell? ⟨w.heap.size, 0, none⟩ = some (.int .i64 c.cells) ∧ w'.cell? ⟨w.heap.size, 1, none⟩ = some (.int .i64 c.muts) ∧ w'.cell? ⟨w.heap.size, 2, none⟩ = some (.int .i64 c.regs) ∧ w'.cell? ⟨w.heap.size, 3, none⟩ = some (.int .i64 c.globs) ∧ w.heap.size + 1 ≤ w'.heap.size ∧ Below (w.heap.size + 1) (w.alloc c.mobj) w')
      (first
        | exact ⟨k0, k1, k2, k3, by simp, (Below.refl _ _).drew⟩
        | (go_split_ands; refine ⟨?_, ?_, ?_, ?_, ?_, ?_⟩ <;> first | (rw [hb2.cell (by first | (simp; done) | (simp; omega))]; assumption) | exact Below.trans (by assumption) (hb2.mono (by first | assumption | (simp; done) | (simp at *; omega))) | exact Nat.le_trans (by first | assumption | (simp; done) | (simp at *; omega)) hb2.size))
      (first | (go_at_call 198; refine (cells_any _ c).mono ?_; rintro e w2 ⟨rfl, hb2⟩) | (go_at_call 86; refine (mat_any _ c _ _ _ _).mono ?_; rintro e w2 ⟨rfl, hb2⟩))
  all_goals
    go_wp2_with fail
    go_ret
    go_split_ands
    exact ⟨by first | rfl | (simp only [i64_w]; rfl), HB0.out.trans (Below.mono (by assumption) (Nat.le_succ _))⟩

theorem cdr_any (w : World) (c : Cfg) (i : Int) :
    Calls Tryd.prog 197 #[c.v, .int .i64 i] w fun e w' => e = .returned (.int .i64 (c.at_ (wrap64 (c.c0 + 1)) i c.cells 3)) ∧ Below w.heap.size w w' := by
  obtain ⟨k0, k1, k2, k3⟩ := Cfg.mcells_at (heap_alloc_new w c.mobj)
  have HB0 : Hid (Below w.heap.size w (w.alloc c.mobj)) := (Below.refl _ _).alloc (Nat.le_refl _) _
  go_enter Tryd.func197, Tryd.ntmps197
  go_wp2_with fail
  go_region_held3 (fun w' => w'.cell? ⟨w.heap.size, 0, none⟩ = some (.int .i64 c.cells) ∧ w'.cell? ⟨w.heap.size, 1, none⟩ = some (.int .i64 c.muts) ∧ w'.cell? ⟨w.heap.size, 2, none⟩ = some (.int .i64 c.regs) ∧ w'.cell? ⟨w.heap.size, 3, none⟩ = some (.int .i64 c.globs) ∧ w.heap.size + 1 ≤ w'.heap.size ∧ Below (w.heap.size + 1) (w.alloc c.mobj) w')
      (first
        | exact ⟨k0, k1, k2, k3, by simp, (Below.refl _ _).drew⟩
        | (go_split_ands; refine ⟨?_, ?_, ?_, ?_, ?_, ?_⟩ <;> first | (rw [hb2.cell (by first | (simp; done) | (simp; omega))]; assumption) | exact Below.trans (by assumption) (hb2.mono (by first | assumption | (simp; done) | (simp at *; omega))) | exact Nat.le_trans (by first | assumption | (simp; done) | (simp at *; omega)) hb2.size))
      (first | (go_at_call 198; refine (cells_any _ c).mono ?_; rintro e w2 ⟨rfl, hb2⟩) | (go_at_call 86; refine (mat_any _ c _ _ _ _).mono ?_; rintro e w2 ⟨rfl, hb2⟩))
  all_goals
    go_wp2_with fail
    go_ret
    go_split_ands
    exact ⟨by first | rfl | (simp only [i64_w]; rfl), HB0.out.trans (Below.mono (by assumption) (Nat.le_succ _))⟩

/-- a register's place -/
def Cfg.reg_ (c : Cfg) (i r : Int) : Int := if 0 ≤ i ∧ i < c.muts then c.at_ (wrap64 (c.r0 + wrap64 (i * c.regs))) r c.regs 1 else -1
theorem reg_any (w : World) (c : Cfg) (i r : Int) :
    Calls Tryd.prog 46 #[c.v, .int .i64 i, .int .i64 r] w fun e w' => e = .returned (.int .i64 (c.reg_ i r)) ∧ Below w.heap.size w w' := by
  obtain ⟨k0, k1, k2, k3⟩ := Cfg.mcells_at (heap_alloc_new w c.mobj)
  have HB0 : Hid (Below w.heap.size w (w.alloc c.mobj)) := (Below.refl _ _).alloc (Nat.le_refl _) _
  by_cases h0 : i < 0
  · have d0 : decide (i < 0) = true := by simpa using h0
    have hr : Hid (c.reg_ i r = -1) := by unfold Cfg.reg_ Hid; rw [if_neg (by omega)]
    clear h0
    go_enter Tryd.func46, Tryd.ntmps46
    go_wp2_with fail
    go_ret
    exact ⟨by rw [hr.out]; rfl, HB0.out⟩
  · have d0 : decide (i < 0) = false := by simpa using h0
    by_cases h1 : c.muts ≤ i
    · have d1 : decide (c.muts ≤ i) = true := by simpa using h1
      have hr : Hid (c.reg_ i r = -1) := by unfold Cfg.reg_ Hid; rw [if_neg (by omega)]
      clear h0 h1
      go_enter Tryd.func46, Tryd.ntmps46
      go_wp2_with fail
      go_ret
      exact ⟨by rw [hr.out]; rfl, HB0.out⟩
    · have d1 : decide (c.muts ≤ i) = false := by simpa using h1
      have hr : Hid (c.reg_ i r = c.at_ (wrap64 (c.r0 + wrap64 (i * c.regs))) r c.regs 1) := by unfold Cfg.reg_ Hid; rw [if_pos (by omega)]
      clear h0 h1
      go_enter Tryd.func46, Tryd.ntmps46
      go_wp2_with fail
      go_region_held3 (fun w' => w'.cell? ⟨w.heap.size, 0, none⟩ = some (.int .i64 c.cells) ∧ w'.cell? ⟨w.heap.size, 1, none⟩ = some (.int .i64 c.muts) ∧ w'.cell? ⟨w.heap.size, 2, none⟩ = some (.int .i64 c.regs) ∧ w'.cell? ⟨w.heap.size, 3, none⟩ = some (.int .i64 c.globs) ∧ w.heap.size + 1 ≤ w'.heap.size ∧ Below (w.heap.size + 1) (w.alloc c.mobj) w')
      (first
        | exact ⟨k0, k1, k2, k3, by simp, (Below.refl _ _).drew⟩
        | (go_split_ands; refine ⟨?_, ?_, ?_, ?_, ?_, ?_⟩ <;> first | (rw [hb2.cell (by first | (simp; done) | (simp; omega))]; assumption) | exact Below.trans (by assumption) (hb2.mono (by first | assumption | (simp; done) | (simp at *; omega))) | exact Nat.le_trans (by first | assumption | (simp; done) | (simp at *; omega)) hb2.size))
      (first | (go_at_call 87; refine (regs_any _ c).mono ?_; rintro e w2 ⟨rfl, hb2⟩) | (go_at_call 86; refine (mat_any _ c _ _ _ _).mono ?_; rintro e w2 ⟨rfl, hb2⟩))
      all_goals
        go_wp2_with fail
        go_ret
        go_split_ands
        exact ⟨by rw [hr.out]; simp only [i64_w]; rfl, HB0.out.trans (Below.mono (by assumption) (Nat.le_succ _))⟩

/-- a root's place -/
def Cfg.root_ (c : Cfg) (j : Int) : Int := if c.ok = true ∧ ¬ j = 0 then c.at_ c.g0 (wrap64 (j - 1)) (wrap64 (c.globs + wrap64 (c.muts * c.regs))) 1 else c.at_ 0 j 1 1
end Go.Proofs.YtipoklnoknkfhaaDoor
