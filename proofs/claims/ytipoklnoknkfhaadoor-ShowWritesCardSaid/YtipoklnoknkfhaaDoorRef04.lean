/- The contracts of the reference on places: At (of a spot that isn't one of those that are there once), Root; and the law's own 'at'. -/
import Derived.Test.YtipoklnoknkfhaaDoorRef03
import Derived.Test.YtipoklnoknkfhaaDoorPlace2
namespace Go.Proofs.YtipoklnoknkfhaaDoor
open Go Go.RowKit
set_option linter.unusedSimpArgs false
set_option linter.unusedVariables false

theorem ret_int {k : IntKind} {a b : Int} (h : a = b) : Ending.returned (.int k a) = .returned (.int k b) := by rw [h]
def Cfg.refAt (c : Cfg) (k a b : Int) : Int :=
  if c.ok = true ∧ 0 ≤ a ∧ 0 ≤ b then
    if k = 1 then (if a < c.muts then 5 + a else -1)
    else if k = 2 then (if a < c.globs then 5 + c.muts + a else -1)
    else if k = 3 then (if a < c.muts ∧ b < c.regs then 5 + c.muts + c.globs + a * c.regs + b else -1)
    else (if a < c.cells then 5 + c.muts + c.globs + c.muts * c.regs + 3 * a + k - 4 else -1)
  else -1
abbrev spotObj (k a b : Int) : Obj := .cells #[.int .i64 k, .int .i64 a, .int .i64 b] 45

/-- the walk's own steps into At: behind the call of Right -/
theorem refat_no (w : World) (c : Cfg) (k a b : Int) (h : ¬ (c.ok = true ∧ 0 ≤ a ∧ 0 ≤ b)) :
    Calls Tryd.prog 17 #[c.v, .agg #[.int .i64 k, .int .i64 a, .int .i64 b]] w fun e w' => e = .returned (.int .i64 (-1)) ∧ Below w.heap.size w w' := by
  have HB0 : Hid (Below w.heap.size w ((w.alloc c.obj).alloc (spotObj k a b))) := ((Below.refl _ _).alloc (Nat.le_refl _) _).alloc (by simp) _
  generalize hok : c.ok = ok at h
  have HOK := Lib.hid hok
  clear hok
  cases ok
  · go_enter Tryd.func17, Tryd.ntmps17
    go_wp2_with fail
    refine (refright_any _ c).mono ?_
    rintro e w1 ⟨rfl, hb⟩
    rw [HOK.out]
    have HB : Hid (Below w.heap.size w w1) := HB0.out.trans (hb.mono (by simp; omega))
    clear hb
    go_wp2_with fail
    go_ret
    exact ⟨rfl, HB.out⟩
  · by_cases ha : a < 0
    · have d1 : decide (a < 0) = true := by simpa using ha
      clear h ha
      go_enter Tryd.func17, Tryd.ntmps17
      go_wp2_with fail
      refine (refright_any _ c).mono ?_
      rintro e w1 ⟨rfl, hb⟩
      rw [HOK.out]
      have HB : Hid (Below w.heap.size w w1) := HB0.out.trans (hb.mono (by simp; omega))
      have hb2 := (hb.block (w.heap.size + 1) (by simp)).trans (heap_new2 w c.obj (spotObj k a b))
      have s1 : w1.cell? ⟨w.heap.size + 1, 1, none⟩ = some (.int .i64 a) := cell_of_block hb2 1
      clear hb hb2
      go_wp2_with fail
      go_ret
      exact ⟨rfl, HB.out⟩
    · have d1 : decide (a < 0) = false := by simpa using ha
      have d2 : decide (b < 0) = true := by
        have hnb : ¬ 0 ≤ b := fun y => h ⟨rfl, by omega, y⟩
        simp
        omega
      clear h ha
      go_enter Tryd.func17, Tryd.ntmps17
      go_wp2_with fail
      refine (refright_any _ c).mono ?_
      rintro e w1 ⟨rfl, hb⟩
      rw [HOK.out]
      have HB : Hid (Below w.heap.size w w1) := HB0.out.trans (hb.mono (by simp; omega))
      have hb2 := (hb.block (w.heap.size + 1) (by simp)).trans (heap_new2 w c.obj (spotObj k a b))
      have s1 : w1.cell? ⟨w.heap.size + 1, 1, none⟩ = some (.int .i64 a) := cell_of_block hb2 1
      have s2 : w1.cell? ⟨w.heap.size + 1, 2, none⟩ = some (.int .i64 b) := cell_of_block hb2 2
      clear hb hb2
      go_wp2_with fail
      go_ret
      exact ⟨rfl, HB.out⟩

theorem refat_1 (w : World) (c : Cfg) (a b : Int) (hok : c.ok = true) (h0 : 0 ≤ a) (h1 : 0 ≤ b) :
    Calls Tryd.prog 17 #[c.v, .agg #[.int .i64 1, .int .i64 a, .int .i64 b]] w fun e w' => e = .returned (.int .i64 (c.refAt 1 a b)) ∧ Below w.heap.size w w' := by
  have HB0 : Hid (Below w.heap.size w ((w.alloc c.obj).alloc (spotObj 1 a b))) := ((Below.refl _ _).alloc (Nat.le_refl _) _).alloc (by simp) _
  obtain ⟨_, _⟩ := c.mr hok
  obtain ⟨_, _, _, _, _, _, _, _⟩ := c.ok_iff.1 hok
  have HOK := Lib.hid hok
  have dz1 : decide (a < 0) = false := by simp; omega
  have dz2 : decide (b < 0) = false := by simp; omega
  by_cases d : a < c.muts
  · have hr : Hid (c.refAt 1 a b = 5 + a) := by unfold Cfg.refAt Hid; rw [if_pos ⟨hok, h0, h1⟩]; simp [*]; try omega
    have d' : decide (a < c.muts) = true := by simpa using d
    have s_0 : IntKind.i64.wrap (5 + c.muts) = 5 + c.muts := IntWalk.i64_in _ (by omega)
    have s_1 : IntKind.i64.wrap (5 + c.muts + c.globs) = 5 + c.muts + c.globs := IntWalk.i64_in _ (by omega)
    have s_2 : IntKind.i64.wrap (c.muts * c.regs) = c.muts * c.regs := IntWalk.i64_in _ (by omega)
    have s_3 : IntKind.i64.wrap (5 + c.muts + c.globs + c.muts * c.regs) = 5 + c.muts + c.globs + c.muts * c.regs := IntWalk.i64_in _ (by omega)
    have s_4 : IntKind.i64.wrap (5 + a) = 5 + a := IntWalk.i64_in _ (by omega)
    clear hok
    go_enter Tryd.func17, Tryd.ntmps17
    go_wp2_with fail
    refine (refright_any _ c).mono ?_
    rintro e w1 ⟨rfl, hb⟩
    rw [HOK.out]
    have HB : Hid (Below w.heap.size w w1) := HB0.out.trans (hb.mono (by simp; omega))
    have hb1 := (hb.block w.heap.size (by simp; omega)).trans (heap_new1 w c.obj (spotObj 1 a b))
    have hb2 := (hb.block (w.heap.size + 1) (by simp)).trans (heap_new2 w c.obj (spotObj 1 a b))
    obtain ⟨k0, k1, k2, k3⟩ := Cfg.cells_at hb1
    have s0 : w1.cell? ⟨w.heap.size + 1, 0, none⟩ = some (.int .i64 1) := cell_of_block hb2 0
    have s1 : w1.cell? ⟨w.heap.size + 1, 1, none⟩ = some (.int .i64 a) := cell_of_block hb2 1
    have s2 : w1.cell? ⟨w.heap.size + 1, 2, none⟩ = some (.int .i64 b) := cell_of_block hb2 2
    clear hb hb1 hb2
    go_wp2_with fail
    go_ret
    exact ⟨by rw [hr.out]; first | rfl | exact ret_int (by omega), HB.out⟩
  · have hr : Hid (c.refAt 1 a b = -1) := by unfold Cfg.refAt Hid; rw [if_pos ⟨hok, h0, h1⟩]; simp [*]; try omega
    have d' : decide (a < c.muts) = false := by simpa using d
    have s_0 : IntKind.i64.wrap (5 + c.muts) = 5 + c.muts := IntWalk.i64_in _ (by omega)
    have s_1 : IntKind.i64.wrap (5 + c.muts + c.globs) = 5 + c.muts + c.globs := IntWalk.i64_in _ (by omega)
    have s_2 : IntKind.i64.wrap (c.muts * c.regs) = c.muts * c.regs := IntWalk.i64_in _ (by omega)
    have s_3 : IntKind.i64.wrap (5 + c.muts + c.globs + c.muts * c.regs) = 5 + c.muts + c.globs + c.muts * c.regs := IntWalk.i64_in _ (by omega)
    clear hok
    go_enter Tryd.func17, Tryd.ntmps17
    go_wp2_with fail
    refine (refright_any _ c).mono ?_
    rintro e w1 ⟨rfl, hb⟩
    rw [HOK.out]
    have HB : Hid (Below w.heap.size w w1) := HB0.out.trans (hb.mono (by simp; omega))
    have hb1 := (hb.block w.heap.size (by simp; omega)).trans (heap_new1 w c.obj (spotObj 1 a b))
    have hb2 := (hb.block (w.heap.size + 1) (by simp)).trans (heap_new2 w c.obj (spotObj 1 a b))
    obtain ⟨k0, k1, k2, k3⟩ := Cfg.cells_at hb1
    have s0 : w1.cell? ⟨w.heap.size + 1, 0, none⟩ = some (.int .i64 1) := cell_of_block hb2 0
    have s1 : w1.cell? ⟨w.heap.size + 1, 1, none⟩ = some (.int .i64 a) := cell_of_block hb2 1
    have s2 : w1.cell? ⟨w.heap.size + 1, 2, none⟩ = some (.int .i64 b) := cell_of_block hb2 2
    clear hb hb1 hb2
    go_wp2_with fail
    go_ret
    exact ⟨by rw [hr.out]; first | rfl | exact ret_int (by omega), HB.out⟩

theorem refat_2 (w : World) (c : Cfg) (a b : Int) (hok : c.ok = true) (h0 : 0 ≤ a) (h1 : 0 ≤ b) :
    Calls Tryd.prog 17 #[c.v, .agg #[.int .i64 2, .int .i64 a, .int .i64 b]] w fun e w' => e = .returned (.int .i64 (c.refAt 2 a b)) ∧ Below w.heap.size w w' := by
  have HB0 : Hid (Below w.heap.size w ((w.alloc c.obj).alloc (spotObj 2 a b))) := ((Below.refl _ _).alloc (Nat.le_refl _) _).alloc (by simp) _
  obtain ⟨_, _⟩ := c.mr hok
  obtain ⟨_, _, _, _, _, _, _, _⟩ := c.ok_iff.1 hok
  have HOK := Lib.hid hok
  have dz1 : decide (a < 0) = false := by simp; omega
  have dz2 : decide (b < 0) = false := by simp; omega
  by_cases d : a < c.globs
  · have hr : Hid (c.refAt 2 a b = 5 + c.muts + a) := by unfold Cfg.refAt Hid; rw [if_pos ⟨hok, h0, h1⟩]; simp [*]; try omega
    have d' : decide (a < c.globs) = true := by simpa using d
    have s_0 : IntKind.i64.wrap (5 + c.muts) = 5 + c.muts := IntWalk.i64_in _ (by omega)
    have s_1 : IntKind.i64.wrap (5 + c.muts + c.globs) = 5 + c.muts + c.globs := IntWalk.i64_in _ (by omega)
    have s_2 : IntKind.i64.wrap (c.muts * c.regs) = c.muts * c.regs := IntWalk.i64_in _ (by omega)
    have s_3 : IntKind.i64.wrap (5 + c.muts + c.globs + c.muts * c.regs) = 5 + c.muts + c.globs + c.muts * c.regs := IntWalk.i64_in _ (by omega)
    have s_4 : IntKind.i64.wrap (5 + c.muts + a) = 5 + c.muts + a := IntWalk.i64_in _ (by omega)
    clear hok
    go_enter Tryd.func17, Tryd.ntmps17
    go_wp2_with fail
    refine (refright_any _ c).mono ?_
    rintro e w1 ⟨rfl, hb⟩
    rw [HOK.out]
    have HB : Hid (Below w.heap.size w w1) := HB0.out.trans (hb.mono (by simp; omega))
    have hb1 := (hb.block w.heap.size (by simp; omega)).trans (heap_new1 w c.obj (spotObj 2 a b))
    have hb2 := (hb.block (w.heap.size + 1) (by simp)).trans (heap_new2 w c.obj (spotObj 2 a b))
    obtain ⟨k0, k1, k2, k3⟩ := Cfg.cells_at hb1
    have s0 : w1.cell? ⟨w.heap.size + 1, 0, none⟩ = some (.int .i64 2) := cell_of_block hb2 0
    have s1 : w1.cell? ⟨w.heap.size + 1, 1, none⟩ = some (.int .i64 a) := cell_of_block hb2 1
    have s2 : w1.cell? ⟨w.heap.size + 1, 2, none⟩ = some (.int .i64 b) := cell_of_block hb2 2
    clear hb hb1 hb2
    go_wp2_with fail
    go_ret
    exact ⟨by rw [hr.out]; first | rfl | exact ret_int (by omega), HB.out⟩
  · have hr : Hid (c.refAt 2 a b = -1) := by unfold Cfg.refAt Hid; rw [if_pos ⟨hok, h0, h1⟩]; simp [*]; try omega
    have d' : decide (a < c.globs) = false := by simpa using d
    have s_0 : IntKind.i64.wrap (5 + c.muts) = 5 + c.muts := IntWalk.i64_in _ (by omega)
    have s_1 : IntKind.i64.wrap (5 + c.muts + c.globs) = 5 + c.muts + c.globs := IntWalk.i64_in _ (by omega)
    have s_2 : IntKind.i64.wrap (c.muts * c.regs) = c.muts * c.regs := IntWalk.i64_in _ (by omega)
    have s_3 : IntKind.i64.wrap (5 + c.muts + c.globs + c.muts * c.regs) = 5 + c.muts + c.globs + c.muts * c.regs := IntWalk.i64_in _ (by omega)
    clear hok
    go_enter Tryd.func17, Tryd.ntmps17
    go_wp2_with fail
    refine (refright_any _ c).mono ?_
    rintro e w1 ⟨rfl, hb⟩
    rw [HOK.out]
    have HB : Hid (Below w.heap.size w w1) := HB0.out.trans (hb.mono (by simp; omega))
    have hb1 := (hb.block w.heap.size (by simp; omega)).trans (heap_new1 w c.obj (spotObj 2 a b))
    have hb2 := (hb.block (w.heap.size + 1) (by simp)).trans (heap_new2 w c.obj (spotObj 2 a b))
    obtain ⟨k0, k1, k2, k3⟩ := Cfg.cells_at hb1
    have s0 : w1.cell? ⟨w.heap.size + 1, 0, none⟩ = some (.int .i64 2) := cell_of_block hb2 0
    have s1 : w1.cell? ⟨w.heap.size + 1, 1, none⟩ = some (.int .i64 a) := cell_of_block hb2 1
    have s2 : w1.cell? ⟨w.heap.size + 1, 2, none⟩ = some (.int .i64 b) := cell_of_block hb2 2
    clear hb hb1 hb2
    go_wp2_with fail
    go_ret
    exact ⟨by rw [hr.out]; first | rfl | exact ret_int (by omega), HB.out⟩

theorem refat_3 (w : World) (c : Cfg) (a b : Int) (hok : c.ok = true) (h0 : 0 ≤ a) (h1 : 0 ≤ b) :
    Calls Tryd.prog 17 #[c.v, .agg #[.int .i64 3, .int .i64 a, .int .i64 b]] w fun e w' => e = .returned (.int .i64 (c.refAt 3 a b)) ∧ Below w.heap.size w w' := by
  have HB0 : Hid (Below w.heap.size w ((w.alloc c.obj).alloc (spotObj 3 a b))) := ((Below.refl _ _).alloc (Nat.le_refl _) _).alloc (by simp) _
  obtain ⟨_, _⟩ := c.mr hok
  obtain ⟨_, _, _, _, _, _, _, _⟩ := c.ok_iff.1 hok
  have HOK := Lib.hid hok
  have dz1 : decide (a < 0) = false := by simp; omega
  have dz2 : decide (b < 0) = false := by simp; omega
  by_cases d : a < c.muts
  · by_cases d2 : b < c.regs
    · have hr : Hid (c.refAt 3 a b = 5 + c.muts + c.globs + a * c.regs + b) := by unfold Cfg.refAt Hid; rw [if_pos ⟨hok, h0, h1⟩]; simp [*]; try omega
      have d' : decide (a < c.muts) = true := by simpa using d
      have d2' : decide (b < c.regs) = true := by simpa using d2
      have hm := mul_bd (a := a) (b := c.regs) (x := 63) (y := 64) (by omega) (by omega) (by omega) (by omega)
      obtain ⟨_, _⟩ := hm
      have s_0 : IntKind.i64.wrap (5 + c.muts) = 5 + c.muts := IntWalk.i64_in _ (by omega)
      have s_1 : IntKind.i64.wrap (5 + c.muts + c.globs) = 5 + c.muts + c.globs := IntWalk.i64_in _ (by omega)
      have s_2 : IntKind.i64.wrap (c.muts * c.regs) = c.muts * c.regs := IntWalk.i64_in _ (by omega)
      have s_3 : IntKind.i64.wrap (5 + c.muts + c.globs + c.muts * c.regs) = 5 + c.muts + c.globs + c.muts * c.regs := IntWalk.i64_in _ (by omega)
      have s_4 : IntKind.i64.wrap (a * c.regs) = a * c.regs := IntWalk.i64_in _ (by omega)
      have s_5 : IntKind.i64.wrap (5 + c.muts + c.globs + a * c.regs) = 5 + c.muts + c.globs + a * c.regs := IntWalk.i64_in _ (by omega)
      have s_6 : IntKind.i64.wrap (5 + c.muts + c.globs + a * c.regs + b) = 5 + c.muts + c.globs + a * c.regs + b := IntWalk.i64_in _ (by omega)
      clear hok
      go_enter Tryd.func17, Tryd.ntmps17
      go_wp2_with fail
      refine (refright_any _ c).mono ?_
      rintro e w1 ⟨rfl, hb⟩
      rw [HOK.out]
      have HB : Hid (Below w.heap.size w w1) := HB0.out.trans (hb.mono (by simp; omega))
      have hb1 := (hb.block w.heap.size (by simp; omega)).trans (heap_new1 w c.obj (spotObj 3 a b))
      have hb2 := (hb.block (w.heap.size + 1) (by simp)).trans (heap_new2 w c.obj (spotObj 3 a b))
      obtain ⟨k0, k1, k2, k3⟩ := Cfg.cells_at hb1
      have s0 : w1.cell? ⟨w.heap.size + 1, 0, none⟩ = some (.int .i64 3) := cell_of_block hb2 0
      have s1 : w1.cell? ⟨w.heap.size + 1, 1, none⟩ = some (.int .i64 a) := cell_of_block hb2 1
      have s2 : w1.cell? ⟨w.heap.size + 1, 2, none⟩ = some (.int .i64 b) := cell_of_block hb2 2
      clear hb hb1 hb2
      go_wp2_with fail
      go_ret
      exact ⟨by rw [hr.out]; first | rfl | exact ret_int (by omega), HB.out⟩
    · have hr : Hid (c.refAt 3 a b = -1) := by unfold Cfg.refAt Hid; rw [if_pos ⟨hok, h0, h1⟩]; simp [*]; try omega
      have d' : decide (a < c.muts) = true := by simpa using d
      have d2' : decide (b < c.regs) = false := by simpa using d2
      have s_0 : IntKind.i64.wrap (5 + c.muts) = 5 + c.muts := IntWalk.i64_in _ (by omega)
      have s_1 : IntKind.i64.wrap (5 + c.muts + c.globs) = 5 + c.muts + c.globs := IntWalk.i64_in _ (by omega)
      have s_2 : IntKind.i64.wrap (c.muts * c.regs) = c.muts * c.regs := IntWalk.i64_in _ (by omega)
      have s_3 : IntKind.i64.wrap (5 + c.muts + c.globs + c.muts * c.regs) = 5 + c.muts + c.globs + c.muts * c.regs := IntWalk.i64_in _ (by omega)
      clear hok
      go_enter Tryd.func17, Tryd.ntmps17
      go_wp2_with fail
      refine (refright_any _ c).mono ?_
      rintro e w1 ⟨rfl, hb⟩
      rw [HOK.out]
      have HB : Hid (Below w.heap.size w w1) := HB0.out.trans (hb.mono (by simp; omega))
      have hb1 := (hb.block w.heap.size (by simp; omega)).trans (heap_new1 w c.obj (spotObj 3 a b))
      have hb2 := (hb.block (w.heap.size + 1) (by simp)).trans (heap_new2 w c.obj (spotObj 3 a b))
      obtain ⟨k0, k1, k2, k3⟩ := Cfg.cells_at hb1
      have s0 : w1.cell? ⟨w.heap.size + 1, 0, none⟩ = some (.int .i64 3) := cell_of_block hb2 0
      have s1 : w1.cell? ⟨w.heap.size + 1, 1, none⟩ = some (.int .i64 a) := cell_of_block hb2 1
      have s2 : w1.cell? ⟨w.heap.size + 1, 2, none⟩ = some (.int .i64 b) := cell_of_block hb2 2
      clear hb hb1 hb2
      go_wp2_with fail
      go_ret
      exact ⟨by rw [hr.out]; first | rfl | exact ret_int (by omega), HB.out⟩
  · have hr : Hid (c.refAt 3 a b = -1) := by unfold Cfg.refAt Hid; rw [if_pos ⟨hok, h0, h1⟩]; simp [*]; try omega
    have d' : decide (a < c.muts) = false := by simpa using d
    have s_0 : IntKind.i64.wrap (5 + c.muts) = 5 + c.muts := IntWalk.i64_in _ (by omega)
    have s_1 : IntKind.i64.wrap (5 + c.muts + c.globs) = 5 + c.muts + c.globs := IntWalk.i64_in _ (by omega)
    have s_2 : IntKind.i64.wrap (c.muts * c.regs) = c.muts * c.regs := IntWalk.i64_in _ (by omega)
    have s_3 : IntKind.i64.wrap (5 + c.muts + c.globs + c.muts * c.regs) = 5 + c.muts + c.globs + c.muts * c.regs := IntWalk.i64_in _ (by omega)
    clear hok
    go_enter Tryd.func17, Tryd.ntmps17
    go_wp2_with fail
    refine (refright_any _ c).mono ?_
    rintro e w1 ⟨rfl, hb⟩
    rw [HOK.out]
    have HB : Hid (Below w.heap.size w w1) := HB0.out.trans (hb.mono (by simp; omega))
    have hb1 := (hb.block w.heap.size (by simp; omega)).trans (heap_new1 w c.obj (spotObj 3 a b))
    have hb2 := (hb.block (w.heap.size + 1) (by simp)).trans (heap_new2 w c.obj (spotObj 3 a b))
    obtain ⟨k0, k1, k2, k3⟩ := Cfg.cells_at hb1
    have s0 : w1.cell? ⟨w.heap.size + 1, 0, none⟩ = some (.int .i64 3) := cell_of_block hb2 0
    have s1 : w1.cell? ⟨w.heap.size + 1, 1, none⟩ = some (.int .i64 a) := cell_of_block hb2 1
    have s2 : w1.cell? ⟨w.heap.size + 1, 2, none⟩ = some (.int .i64 b) := cell_of_block hb2 2
    clear hb hb1 hb2
    go_wp2_with fail
    go_ret
    exact ⟨by rw [hr.out]; first | rfl | exact ret_int (by omega), HB.out⟩

theorem refat_4 (w : World) (c : Cfg) (a b : Int) (hok : c.ok = true) (h0 : 0 ≤ a) (h1 : 0 ≤ b) :
    Calls Tryd.prog 17 #[c.v, .agg #[.int .i64 4, .int .i64 a, .int .i64 b]] w fun e w' => e = .returned (.int .i64 (c.refAt 4 a b)) ∧ Below w.heap.size w w' := by
  have HB0 : Hid (Below w.heap.size w ((w.alloc c.obj).alloc (spotObj 4 a b))) := ((Below.refl _ _).alloc (Nat.le_refl _) _).alloc (by simp) _
  obtain ⟨_, _⟩ := c.mr hok
  obtain ⟨_, _, _, _, _, _, _, _⟩ := c.ok_iff.1 hok
  have HOK := Lib.hid hok
  have dz1 : decide (a < 0) = false := by simp; omega
  have dz2 : decide (b < 0) = false := by simp; omega
  by_cases d : a < c.cells
  · have hr : Hid (c.refAt 4 a b = 5 + c.muts + c.globs + c.muts * c.regs + 3 * a + 4 - 4) := by unfold Cfg.refAt Hid; rw [if_pos ⟨hok, h0, h1⟩]; simp [*]; try omega
    have d' : decide (a < c.cells) = true := by simpa using d
    have s_0 : IntKind.i64.wrap (5 + c.muts) = 5 + c.muts := IntWalk.i64_in _ (by omega)
    have s_1 : IntKind.i64.wrap (5 + c.muts + c.globs) = 5 + c.muts + c.globs := IntWalk.i64_in _ (by omega)
    have s_2 : IntKind.i64.wrap (c.muts * c.regs) = c.muts * c.regs := IntWalk.i64_in _ (by omega)
    have s_3 : IntKind.i64.wrap (5 + c.muts + c.globs + c.muts * c.regs) = 5 + c.muts + c.globs + c.muts * c.regs := IntWalk.i64_in _ (by omega)
    have s_4 : IntKind.i64.wrap (3 * a) = 3 * a := IntWalk.i64_in _ (by omega)
    have s_5 : IntKind.i64.wrap (5 + c.muts + c.globs + c.muts * c.regs + 3 * a) = 5 + c.muts + c.globs + c.muts * c.regs + 3 * a := IntWalk.i64_in _ (by omega)
    have s_6 : IntKind.i64.wrap (5 + c.muts + c.globs + c.muts * c.regs + 3 * a + 4) = 5 + c.muts + c.globs + c.muts * c.regs + 3 * a + 4 := IntWalk.i64_in _ (by omega)
    have s_7 : IntKind.i64.wrap (5 + c.muts + c.globs + c.muts * c.regs + 3 * a + 4 - 4) = 5 + c.muts + c.globs + c.muts * c.regs + 3 * a + 4 - 4 := IntWalk.i64_in _ (by omega)
    clear hok
    go_enter Tryd.func17, Tryd.ntmps17
    go_wp2_with fail
    refine (refright_any _ c).mono ?_
    rintro e w1 ⟨rfl, hb⟩
    rw [HOK.out]
    have HB : Hid (Below w.heap.size w w1) := HB0.out.trans (hb.mono (by simp; omega))
    have hb1 := (hb.block w.heap.size (by simp; omega)).trans (heap_new1 w c.obj (spotObj 4 a b))
    have hb2 := (hb.block (w.heap.size + 1) (by simp)).trans (heap_new2 w c.obj (spotObj 4 a b))
    obtain ⟨k0, k1, k2, k3⟩ := Cfg.cells_at hb1
    have s0 : w1.cell? ⟨w.heap.size + 1, 0, none⟩ = some (.int .i64 4) := cell_of_block hb2 0
    have s1 : w1.cell? ⟨w.heap.size + 1, 1, none⟩ = some (.int .i64 a) := cell_of_block hb2 1
    have s2 : w1.cell? ⟨w.heap.size + 1, 2, none⟩ = some (.int .i64 b) := cell_of_block hb2 2
    clear hb hb1 hb2
    go_wp2_with fail
    go_ret
    exact ⟨by rw [hr.out]; first | rfl | exact ret_int (by omega), HB.out⟩
  · have hr : Hid (c.refAt 4 a b = -1) := by unfold Cfg.refAt Hid; rw [if_pos ⟨hok, h0, h1⟩]; simp [*]; try omega
    have d' : decide (a < c.cells) = false := by simpa using d
    have s_0 : IntKind.i64.wrap (5 + c.muts) = 5 + c.muts := IntWalk.i64_in _ (by omega)
    have s_1 : IntKind.i64.wrap (5 + c.muts + c.globs) = 5 + c.muts + c.globs := IntWalk.i64_in _ (by omega)
    have s_2 : IntKind.i64.wrap (c.muts * c.regs) = c.muts * c.regs := IntWalk.i64_in _ (by omega)
    have s_3 : IntKind.i64.wrap (5 + c.muts + c.globs + c.muts * c.regs) = 5 + c.muts + c.globs + c.muts * c.regs := IntWalk.i64_in _ (by omega)
    clear hok
    go_enter Tryd.func17, Tryd.ntmps17
    go_wp2_with fail
    refine (refright_any _ c).mono ?_
    rintro e w1 ⟨rfl, hb⟩
    rw [HOK.out]
    have HB : Hid (Below w.heap.size w w1) := HB0.out.trans (hb.mono (by simp; omega))
    have hb1 := (hb.block w.heap.size (by simp; omega)).trans (heap_new1 w c.obj (spotObj 4 a b))
    have hb2 := (hb.block (w.heap.size + 1) (by simp)).trans (heap_new2 w c.obj (spotObj 4 a b))
    obtain ⟨k0, k1, k2, k3⟩ := Cfg.cells_at hb1
    have s0 : w1.cell? ⟨w.heap.size + 1, 0, none⟩ = some (.int .i64 4) := cell_of_block hb2 0
    have s1 : w1.cell? ⟨w.heap.size + 1, 1, none⟩ = some (.int .i64 a) := cell_of_block hb2 1
    have s2 : w1.cell? ⟨w.heap.size + 1, 2, none⟩ = some (.int .i64 b) := cell_of_block hb2 2
    clear hb hb1 hb2
    go_wp2_with fail
    go_ret
    exact ⟨by rw [hr.out]; first | rfl | exact ret_int (by omega), HB.out⟩

theorem refat_5 (w : World) (c : Cfg) (a b : Int) (hok : c.ok = true) (h0 : 0 ≤ a) (h1 : 0 ≤ b) :
    Calls Tryd.prog 17 #[c.v, .agg #[.int .i64 5, .int .i64 a, .int .i64 b]] w fun e w' => e = .returned (.int .i64 (c.refAt 5 a b)) ∧ Below w.heap.size w w' := by
  have HB0 : Hid (Below w.heap.size w ((w.alloc c.obj).alloc (spotObj 5 a b))) := ((Below.refl _ _).alloc (Nat.le_refl _) _).alloc (by simp) _
  obtain ⟨_, _⟩ := c.mr hok
  obtain ⟨_, _, _, _, _, _, _, _⟩ := c.ok_iff.1 hok
  have HOK := Lib.hid hok
  have dz1 : decide (a < 0) = false := by simp; omega
  have dz2 : decide (b < 0) = false := by simp; omega
  by_cases d : a < c.cells
  · have hr : Hid (c.refAt 5 a b = 5 + c.muts + c.globs + c.muts * c.regs + 3 * a + 5 - 4) := by unfold Cfg.refAt Hid; rw [if_pos ⟨hok, h0, h1⟩]; simp [*]; try omega
    have d' : decide (a < c.cells) = true := by simpa using d
    have s_0 : IntKind.i64.wrap (5 + c.muts) = 5 + c.muts := IntWalk.i64_in _ (by omega)
    have s_1 : IntKind.i64.wrap (5 + c.muts + c.globs) = 5 + c.muts + c.globs := IntWalk.i64_in _ (by omega)
    have s_2 : IntKind.i64.wrap (c.muts * c.regs) = c.muts * c.regs := IntWalk.i64_in _ (by omega)
    have s_3 : IntKind.i64.wrap (5 + c.muts + c.globs + c.muts * c.regs) = 5 + c.muts + c.globs + c.muts * c.regs := IntWalk.i64_in _ (by omega)
    have s_4 : IntKind.i64.wrap (3 * a) = 3 * a := IntWalk.i64_in _ (by omega)
    have s_5 : IntKind.i64.wrap (5 + c.muts + c.globs + c.muts * c.regs + 3 * a) = 5 + c.muts + c.globs + c.muts * c.regs + 3 * a := IntWalk.i64_in _ (by omega)
    have s_6 : IntKind.i64.wrap (5 + c.muts + c.globs + c.muts * c.regs + 3 * a + 5) = 5 + c.muts + c.globs + c.muts * c.regs + 3 * a + 5 := IntWalk.i64_in _ (by omega)
    have s_7 : IntKind.i64.wrap (5 + c.muts + c.globs + c.muts * c.regs + 3 * a + 5 - 4) = 5 + c.muts + c.globs + c.muts * c.regs + 3 * a + 5 - 4 := IntWalk.i64_in _ (by omega)
    clear hok
    go_enter Tryd.func17, Tryd.ntmps17
    go_wp2_with fail
    refine (refright_any _ c).mono ?_
    rintro e w1 ⟨rfl, hb⟩
    rw [HOK.out]
    have HB : Hid (Below w.heap.size w w1) := HB0.out.trans (hb.mono (by simp; omega))
    have hb1 := (hb.block w.heap.size (by simp; omega)).trans (heap_new1 w c.obj (spotObj 5 a b))
    have hb2 := (hb.block (w.heap.size + 1) (by simp)).trans (heap_new2 w c.obj (spotObj 5 a b))
    obtain ⟨k0, k1, k2, k3⟩ := Cfg.cells_at hb1
    have s0 : w1.cell? ⟨w.heap.size + 1, 0, none⟩ = some (.int .i64 5) := cell_of_block hb2 0
    have s1 : w1.cell? ⟨w.heap.size + 1, 1, none⟩ = some (.int .i64 a) := cell_of_block hb2 1
    have s2 : w1.cell? ⟨w.heap.size + 1, 2, none⟩ = some (.int .i64 b) := cell_of_block hb2 2
    clear hb hb1 hb2
    go_wp2_with fail
    go_ret
    exact ⟨by rw [hr.out]; first | rfl | exact ret_int (by omega), HB.out⟩
  · have hr : Hid (c.refAt 5 a b = -1) := by unfold Cfg.refAt Hid; rw [if_pos ⟨hok, h0, h1⟩]; simp [*]; try omega
    have d' : decide (a < c.cells) = false := by simpa using d
    have s_0 : IntKind.i64.wrap (5 + c.muts) = 5 + c.muts := IntWalk.i64_in _ (by omega)
    have s_1 : IntKind.i64.wrap (5 + c.muts + c.globs) = 5 + c.muts + c.globs := IntWalk.i64_in _ (by omega)
    have s_2 : IntKind.i64.wrap (c.muts * c.regs) = c.muts * c.regs := IntWalk.i64_in _ (by omega)
    have s_3 : IntKind.i64.wrap (5 + c.muts + c.globs + c.muts * c.regs) = 5 + c.muts + c.globs + c.muts * c.regs := IntWalk.i64_in _ (by omega)
    clear hok
    go_enter Tryd.func17, Tryd.ntmps17
    go_wp2_with fail
    refine (refright_any _ c).mono ?_
    rintro e w1 ⟨rfl, hb⟩
    rw [HOK.out]
    have HB : Hid (Below w.heap.size w w1) := HB0.out.trans (hb.mono (by simp; omega))
    have hb1 := (hb.block w.heap.size (by simp; omega)).trans (heap_new1 w c.obj (spotObj 5 a b))
    have hb2 := (hb.block (w.heap.size + 1) (by simp)).trans (heap_new2 w c.obj (spotObj 5 a b))
    obtain ⟨k0, k1, k2, k3⟩ := Cfg.cells_at hb1
    have s0 : w1.cell? ⟨w.heap.size + 1, 0, none⟩ = some (.int .i64 5) := cell_of_block hb2 0
    have s1 : w1.cell? ⟨w.heap.size + 1, 1, none⟩ = some (.int .i64 a) := cell_of_block hb2 1
    have s2 : w1.cell? ⟨w.heap.size + 1, 2, none⟩ = some (.int .i64 b) := cell_of_block hb2 2
    clear hb hb1 hb2
    go_wp2_with fail
    go_ret
    exact ⟨by rw [hr.out]; first | rfl | exact ret_int (by omega), HB.out⟩

theorem refat_6 (w : World) (c : Cfg) (a b : Int) (hok : c.ok = true) (h0 : 0 ≤ a) (h1 : 0 ≤ b) :
    Calls Tryd.prog 17 #[c.v, .agg #[.int .i64 6, .int .i64 a, .int .i64 b]] w fun e w' => e = .returned (.int .i64 (c.refAt 6 a b)) ∧ Below w.heap.size w w' := by
  have HB0 : Hid (Below w.heap.size w ((w.alloc c.obj).alloc (spotObj 6 a b))) := ((Below.refl _ _).alloc (Nat.le_refl _) _).alloc (by simp) _
  obtain ⟨_, _⟩ := c.mr hok
  obtain ⟨_, _, _, _, _, _, _, _⟩ := c.ok_iff.1 hok
  have HOK := Lib.hid hok
  have dz1 : decide (a < 0) = false := by simp; omega
  have dz2 : decide (b < 0) = false := by simp; omega
  by_cases d : a < c.cells
  · have hr : Hid (c.refAt 6 a b = 5 + c.muts + c.globs + c.muts * c.regs + 3 * a + 6 - 4) := by unfold Cfg.refAt Hid; rw [if_pos ⟨hok, h0, h1⟩]; simp [*]; try omega
    have d' : decide (a < c.cells) = true := by simpa using d
    have s_0 : IntKind.i64.wrap (5 + c.muts) = 5 + c.muts := IntWalk.i64_in _ (by omega)
    have s_1 : IntKind.i64.wrap (5 + c.muts + c.globs) = 5 + c.muts + c.globs := IntWalk.i64_in _ (by omega)
    have s_2 : IntKind.i64.wrap (c.muts * c.regs) = c.muts * c.regs := IntWalk.i64_in _ (by omega)
    have s_3 : IntKind.i64.wrap (5 + c.muts + c.globs + c.muts * c.regs) = 5 + c.muts + c.globs + c.muts * c.regs := IntWalk.i64_in _ (by omega)
    have s_4 : IntKind.i64.wrap (3 * a) = 3 * a := IntWalk.i64_in _ (by omega)
    have s_5 : IntKind.i64.wrap (5 + c.muts + c.globs + c.muts * c.regs + 3 * a) = 5 + c.muts + c.globs + c.muts * c.regs + 3 * a := IntWalk.i64_in _ (by omega)
    have s_6 : IntKind.i64.wrap (5 + c.muts + c.globs + c.muts * c.regs + 3 * a + 6) = 5 + c.muts + c.globs + c.muts * c.regs + 3 * a + 6 := IntWalk.i64_in _ (by omega)
    have s_7 : IntKind.i64.wrap (5 + c.muts + c.globs + c.muts * c.regs + 3 * a + 6 - 4) = 5 + c.muts + c.globs + c.muts * c.regs + 3 * a + 6 - 4 := IntWalk.i64_in _ (by omega)
    clear hok
    go_enter Tryd.func17, Tryd.ntmps17
    go_wp2_with fail
    refine (refright_any _ c).mono ?_
    rintro e w1 ⟨rfl, hb⟩
    rw [HOK.out]
    have HB : Hid (Below w.heap.size w w1) := HB0.out.trans (hb.mono (by simp; omega))
    have hb1 := (hb.block w.heap.size (by simp; omega)).trans (heap_new1 w c.obj (spotObj 6 a b))
    have hb2 := (hb.block (w.heap.size + 1) (by simp)).trans (heap_new2 w c.obj (spotObj 6 a b))
    obtain ⟨k0, k1, k2, k3⟩ := Cfg.cells_at hb1
    have s0 : w1.cell? ⟨w.heap.size + 1, 0, none⟩ = some (.int .i64 6) := cell_of_block hb2 0
    have s1 : w1.cell? ⟨w.heap.size + 1, 1, none⟩ = some (.int .i64 a) := cell_of_block hb2 1
    have s2 : w1.cell? ⟨w.heap.size + 1, 2, none⟩ = some (.int .i64 b) := cell_of_block hb2 2
    clear hb hb1 hb2
    go_wp2_with fail
    go_ret
    exact ⟨by rw [hr.out]; first | rfl | exact ret_int (by omega), HB.out⟩
  · have hr : Hid (c.refAt 6 a b = -1) := by unfold Cfg.refAt Hid; rw [if_pos ⟨hok, h0, h1⟩]; simp [*]; try omega
    have d' : decide (a < c.cells) = false := by simpa using d
    have s_0 : IntKind.i64.wrap (5 + c.muts) = 5 + c.muts := IntWalk.i64_in _ (by omega)
    have s_1 : IntKind.i64.wrap (5 + c.muts + c.globs) = 5 + c.muts + c.globs := IntWalk.i64_in _ (by omega)
    have s_2 : IntKind.i64.wrap (c.muts * c.regs) = c.muts * c.regs := IntWalk.i64_in _ (by omega)
    have s_3 : IntKind.i64.wrap (5 + c.muts + c.globs + c.muts * c.regs) = 5 + c.muts + c.globs + c.muts * c.regs := IntWalk.i64_in _ (by omega)
    clear hok
    go_enter Tryd.func17, Tryd.ntmps17
    go_wp2_with fail
    refine (refright_any _ c).mono ?_
    rintro e w1 ⟨rfl, hb⟩
    rw [HOK.out]
    have HB : Hid (Below w.heap.size w w1) := HB0.out.trans (hb.mono (by simp; omega))
    have hb1 := (hb.block w.heap.size (by simp; omega)).trans (heap_new1 w c.obj (spotObj 6 a b))
    have hb2 := (hb.block (w.heap.size + 1) (by simp)).trans (heap_new2 w c.obj (spotObj 6 a b))
    obtain ⟨k0, k1, k2, k3⟩ := Cfg.cells_at hb1
    have s0 : w1.cell? ⟨w.heap.size + 1, 0, none⟩ = some (.int .i64 6) := cell_of_block hb2 0
    have s1 : w1.cell? ⟨w.heap.size + 1, 1, none⟩ = some (.int .i64 a) := cell_of_block hb2 1
    have s2 : w1.cell? ⟨w.heap.size + 1, 2, none⟩ = some (.int .i64 b) := cell_of_block hb2 2
    clear hb hb1 hb2
    go_wp2_with fail
    go_ret
    exact ⟨by rw [hr.out]; first | rfl | exact ret_int (by omega), HB.out⟩

theorem refat_any (w : World) (c : Cfg) (k a b : Int) (hk : k = 1 ∨ k = 2 ∨ k = 3 ∨ k = 4 ∨ k = 5 ∨ k = 6) :
    Calls Tryd.prog 17 #[c.v, .agg #[.int .i64 k, .int .i64 a, .int .i64 b]] w fun e w' => e = .returned (.int .i64 (c.refAt k a b)) ∧ Below w.heap.size w w' := by
  by_cases h : c.ok = true ∧ 0 ≤ a ∧ 0 ≤ b
  · obtain ⟨h0, h1, h2⟩ := h
    rcases hk with rfl | rfl | rfl | rfl | rfl | rfl
    · exact refat_1 w c a b h0 h1 h2
    · exact refat_2 w c a b h0 h1 h2
    · exact refat_3 w c a b h0 h1 h2
    · exact refat_4 w c a b h0 h1 h2
    · exact refat_5 w c a b h0 h1 h2
    · exact refat_6 w c a b h0 h1 h2
  · have : c.refAt k a b = -1 := by unfold Cfg.refAt; rw [if_neg h]
    rw [this]
    exact refat_no w c k a b h

def Cfg.refRoot (c : Cfg) (j : Int) : Int := if 0 ≤ j ∧ j < c.roots then (if j = 0 then 0 else 4 + c.muts + j) else -1
end Go.Proofs.YtipoklnoknkfhaaDoor
