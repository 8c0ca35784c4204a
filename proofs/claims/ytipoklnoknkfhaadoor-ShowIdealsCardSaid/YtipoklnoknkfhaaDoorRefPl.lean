/- The contracts of the reference on configurations: Right, Roots, Words. The contracts of place's calls: In, Glob, Reg, Car, Cdr, Colour, Root. The contracts of the reference on places: At (of a spot that isn't one of those that are there once), Root; and the law's own 'at'. The laws of places: awake, PlaceTells: their walks. -/
import Derived.Test.YtipoklnoknkfhaaDoorPlace
namespace Go.Proofs.YtipoklnoknkfhaaDoor
open Go Go.RowKit
set_option linter.unusedSimpArgs false
set_option linter.unusedVariables false

theorem refright_any (w : World) (c : Cfg) :
    Calls Tryd.prog 12 #[c.v] w fun e w' => e = .returned (.bool c.ok) ∧ Below w.heap.size w w' := by
  obtain ⟨k0, k1, k2, k3⟩ := Cfg.cells_at (heap_alloc_new w c.obj)
  have HB0 : Hid (Below w.heap.size w (w.alloc c.obj)) := (Below.refl _ _).alloc (Nat.le_refl _) _
  have hok : c.ok = (decide (1 < c.cells) && decide (c.cells < 4097) && decide (0 < c.muts) && decide (c.muts < 64) && decide (0 < c.regs) && decide (c.regs < 65) && decide (-1 < c.globs) && decide (c.globs < 65)) := by
    rw [Bool.eq_iff_iff, c.ok_iff]
    simp only [Bool.and_eq_true, decide_eq_true_eq]
    omega
  generalize c.ok = ok at hok
  generalize g1 : decide (1 < c.cells) = b1 at hok
  generalize g2 : decide (c.cells < 4097) = b2 at hok
  generalize g3 : decide (0 < c.muts) = b3 at hok
  generalize g4 : decide (c.muts < 64) = b4 at hok
  generalize g5 : decide (0 < c.regs) = b5 at hok
  generalize g6 : decide (c.regs < 65) = b6 at hok
  generalize g7 : decide (-1 < c.globs) = b7 at hok
  generalize g8 : decide (c.globs < 65) = b8 at hok
  have HOK := Lib.hid hok
  clear hok
  cases b1
  · go_enter Tryd.func12, Tryd.ntmps12
    go_wp2
    go_ret
    exact ⟨by rw [HOK.out]; rfl, HB0.out⟩
  cases b2
  · go_enter Tryd.func12, Tryd.ntmps12
    go_wp2
    go_ret
    exact ⟨by rw [HOK.out]; rfl, HB0.out⟩
  cases b3
  · go_enter Tryd.func12, Tryd.ntmps12
    go_wp2
    go_ret
    exact ⟨by rw [HOK.out]; rfl, HB0.out⟩
  cases b4
  · go_enter Tryd.func12, Tryd.ntmps12
    go_wp2
    go_ret
    exact ⟨by rw [HOK.out]; rfl, HB0.out⟩
  cases b5
  · go_enter Tryd.func12, Tryd.ntmps12
    go_wp2
    go_ret
    exact ⟨by rw [HOK.out]; rfl, HB0.out⟩
  cases b6
  · go_enter Tryd.func12, Tryd.ntmps12
    go_wp2
    go_ret
    exact ⟨by rw [HOK.out]; rfl, HB0.out⟩
  cases b7
  · go_enter Tryd.func12, Tryd.ntmps12
    go_wp2
    go_ret
    exact ⟨by rw [HOK.out]; rfl, HB0.out⟩
  cases b8
  · go_enter Tryd.func12, Tryd.ntmps12
    go_wp2
    go_ret
    exact ⟨by rw [HOK.out]; rfl, HB0.out⟩
  · go_enter Tryd.func12, Tryd.ntmps12
    go_wp2
    go_ret
    exact ⟨by rw [HOK.out]; rfl, HB0.out⟩

theorem refroots_any (w : World) (c : Cfg) :
    Calls Tryd.prog 47 #[c.v] w fun e w' => e = .returned (.int .i64 c.roots) ∧ Below w.heap.size w w' := by
  have HB0 : Hid (Below w.heap.size w (w.alloc c.obj)) := (Below.refl _ _).alloc (Nat.le_refl _) _
  by_cases ok : c.ok = true
  · have hr : Hid (c.roots = 1 + c.globs + c.muts * c.regs) := by unfold Cfg.roots Hid; rw [if_pos ok]
    have HOK := Lib.hid ok
    obtain ⟨_, _, _, _, _, _, _, _⟩ := c.ok_iff.1 ok
    clear ok
    have hs0 : IntKind.i64.wrap (1 + c.globs) = 1 + c.globs := IntWalk.i64_in _ (by omega)
    go_enter Tryd.func47, Tryd.ntmps47
    go_wp2_with fail
    refine (refright_any _ c).mono ?_
    rintro e w1 ⟨rfl, hb⟩
    rw [HOK.out]
    have HB : Hid (Below w.heap.size w w1) := HB0.out.trans (hb.mono (by simp))
    have hbk : w1.heap[w.heap.size]? = some c.obj := (hb.block w.heap.size (by simp)).trans (heap_alloc_new w c.obj)
    obtain ⟨k0, k1, k2, k3⟩ := Cfg.cells_at hbk
    clear hb hbk
    go_wp2_with fail
    clear hs0
    go_loop [3, 4] (fun n i => ∃ k : Nat, (k : Int) ≤ c.muts ∧ i = .int .i64 k ∧ n = .int .i64 (1 + c.globs + k * c.regs)) (fun _ i => c.muts.toNat - (intOf i).toNat)
    case atStart => exact ⟨0, by simp; omega, rfl, by simp⟩
    case round =>
      obtain ⟨k, hk, rfl, rfl⟩ := hrel
      have hm := mul_bd (a := (k : Int)) (b := c.regs) (x := 63) (y := 64) (by omega) (by omega) (by omega) (by omega)
      obtain ⟨hm0, hm1⟩ := hm
      have hs : IntKind.i64.wrap (1 + c.globs + k * c.regs + c.regs) = 1 + c.globs + k * c.regs + c.regs := IntWalk.i64_in _ (by omega)
      by_cases hlt : (k : Int) < c.muts
      · go_wp2_with fail
        go_round
        case rel => exact ⟨k + 1, by omega, by go_num, by
          have e : ((k + 1 : Nat) : Int) * c.regs = k * c.regs + c.regs := by rw [Int.natCast_add, Int.add_mul]; simp
          rw [e]; congr 1; omega⟩
        case measure => simp [intOf]; omega
      · have hke : (k : Int) = c.muts := by omega
        have HKE := Lib.hid hke
        clear hke
        go_wp2_with fail
        go_ret
        exact ⟨by rw [hr.out, ← HKE.out]; rfl, HB.out⟩
  · have hr : Hid (c.roots = 0) := by unfold Cfg.roots Hid; rw [if_neg ok]
    have HOK : Hid (c.ok = false) := by unfold Hid; simpa using ok
    clear ok
    go_enter Tryd.func47, Tryd.ntmps47
    go_wp2_with fail
    refine (refright_any _ c).mono ?_
    rintro e w1 ⟨rfl, hb⟩
    rw [HOK.out]
    have HB : Hid (Below w.heap.size w w1) := HB0.out.trans (hb.mono (by simp))
    clear hb
    go_wp2_with fail
    go_ret
    exact ⟨by rw [hr.out]; rfl, HB.out⟩

theorem refwords_any (w : World) (c : Cfg) :
    Calls Tryd.prog 13 #[c.v] w fun e w' => e = .returned (.int .i64 c.words) ∧ Below w.heap.size w w' := by
  have HB0 : Hid (Below w.heap.size w (w.alloc c.obj)) := (Below.refl _ _).alloc (Nat.le_refl _) _
  by_cases ok : c.ok = true
  · have hr : Hid (c.words = 4 + c.muts + c.roots + c.cells + c.cells + c.cells) := by unfold Cfg.words Hid; rw [if_pos ok]; omega
    have hrt : Hid (c.roots = 1 + c.globs + c.muts * c.regs) := by unfold Cfg.roots Hid; rw [if_pos ok]
    have HOK := Lib.hid ok
    obtain ⟨_, _⟩ := c.mr ok
    obtain ⟨_, _, _, _, _, _, _, _⟩ := c.ok_iff.1 ok
    have hrb : 0 ≤ c.roots ∧ c.roots ≤ 5000 := by rw [hrt.out]; omega
    obtain ⟨_, _⟩ := hrb
    clear ok
    have hs1 : IntKind.i64.wrap (4 + c.muts) = 4 + c.muts := IntWalk.i64_in _ (by omega)
    have hs2 : IntKind.i64.wrap (4 + c.muts + c.roots) = 4 + c.muts + c.roots := IntWalk.i64_in _ (by omega)
    have hs3 : IntKind.i64.wrap (4 + c.muts + c.roots + c.cells) = 4 + c.muts + c.roots + c.cells := IntWalk.i64_in _ (by omega)
    have hs4 : IntKind.i64.wrap (4 + c.muts + c.roots + c.cells + c.cells) = 4 + c.muts + c.roots + c.cells + c.cells := IntWalk.i64_in _ (by omega)
    have hs5 : IntKind.i64.wrap (4 + c.muts + c.roots + c.cells + c.cells + c.cells) = 4 + c.muts + c.roots + c.cells + c.cells + c.cells := IntWalk.i64_in _ (by omega)
    go_enter Tryd.func13, Tryd.ntmps13
    go_wp2_with fail
    refine (refright_any _ c).mono ?_
    rintro e w1 ⟨rfl, hb⟩
    rw [HOK.out]
    have HB : Hid (Below w.heap.size w w1) := HB0.out.trans (hb.mono (by simp))
    have hs : w.heap.size + 1 ≤ w1.heap.size := by have := hb.size; simpa using this
    have hbk : w1.heap[w.heap.size]? = some c.obj := (hb.block w.heap.size (by simp)).trans (heap_alloc_new w c.obj)
    obtain ⟨k0, k1, k2, k3⟩ := Cfg.cells_at hbk
    clear hb hbk
    go_wp2_with fail
    go_region_held3 (fun w' => w'.cell? ⟨w.heap.size, 0, none⟩ = some (.int .i64 c.cells) ∧ w'.cell? ⟨w.heap.size, 1, none⟩ = some (.int .i64 c.muts) ∧ w'.cell? ⟨w.heap.size, 2, none⟩ = some (.int .i64 c.regs) ∧ w'.cell? ⟨w.heap.size, 3, none⟩ = some (.int .i64 c.globs) ∧ w.heap.size + 1 ≤ w'.heap.size ∧ Below (w.heap.size + 1) w1 w')
      (first
        | exact ⟨k0, k1, k2, k3, hs, (Below.refl _ _).drew⟩
        | (go_split_ands; refine ⟨?_, ?_, ?_, ?_, ?_, ?_⟩ <;> first | (rw [hb2.cell (by first | (simp; done) | (simp; omega))]; assumption) | exact Below.trans (by assumption) (hb2.mono (by first | assumption | (simp; done) | (simp at *; omega))) | exact Nat.le_trans (by first | assumption | (simp; done) | (simp at *; omega)) hb2.size))
      (first | (go_at_call 47; refine (refroots_any _ c).mono ?_; rintro e w2 ⟨rfl, hb2⟩))
    all_goals
      go_wp2_with fail
      go_ret
      go_split_ands
      exact ⟨by rw [hr.out]; first | rfl | (simp only [IntKind.wrap_i64]; rfl), HB.out.trans (Below.mono (by assumption) (Nat.le_succ _))⟩
  · have hr : Hid (c.words = 0) := by unfold Cfg.words Hid; rw [if_neg ok]
    have HOK : Hid (c.ok = false) := by unfold Hid; simpa using ok
    clear ok
    go_enter Tryd.func13, Tryd.ntmps13
    go_wp2_with fail
    refine (refright_any _ c).mono ?_
    rintro e w1 ⟨rfl, hb⟩
    rw [HOK.out]
    have HB : Hid (Below w.heap.size w w1) := HB0.out.trans (hb.mono (by simp))
    clear hb
    go_wp2_with fail
    go_ret
    exact ⟨by rw [hr.out]; rfl, HB.out⟩
end Go.Proofs.YtipoklnoknkfhaaDoor
namespace Go.Proofs.YtipoklnoknkfhaaDoor
open Go Go.RowKit
set_option linter.unusedSimpArgs false
set_option linter.unusedVariables false

theorem i64_w (x : Int) : IntKind.i64.wrap x = wrap64 x := by unfold wrap64; exact IntKind.wrap_i64 x
/-- where globals, registers and cells begin -/
def Cfg.g0 (c : Cfg) : Int := wrap64 (5 + c.muts)
def Cfg.r0 (c : Cfg) : Int := wrap64 (c.g0 + c.globs)
def Cfg.c0 (c : Cfg) : Int := wrap64 (c.r0 + wrap64 (c.muts * c.regs))

theorem globs_any (w : World) (c : Cfg) :
    Calls Tryd.prog 119 #[c.v] w fun e w' => e = .returned (.int .i64 (c.g0)) ∧ Below w.heap.size w w' := by
  obtain ⟨k0, k1, k2, k3⟩ := Cfg.mcells_at (heap_alloc_new w c.mobj)
  have HB0 : Hid (Below w.heap.size w (w.alloc c.mobj)) := (Below.refl _ _).alloc (Nat.le_refl _) _
  go_enter Tryd.func119, Tryd.ntmps119
  go_wp2_with fail
  go_ret
  exact ⟨rfl, HB0.out⟩

theorem regs_any (w : World) (c : Cfg) :
    Calls Tryd.prog 87 #[c.v] w fun e w' => e = .returned (.int .i64 (c.r0)) ∧ Below w.heap.size w w' := by
  obtain ⟨k0, k1, k2, k3⟩ := Cfg.mcells_at (heap_alloc_new w c.mobj)
  have HB0 : Hid (Below w.heap.size w (w.alloc c.mobj)) := (Below.refl _ _).alloc (Nat.le_refl _) _
  go_enter Tryd.func87, Tryd.ntmps87
  go_wp2_with fail
  go_region_held3 (fun w' => w'.cell? ⟨w.heap.size, 0, none⟩ = some (.int .i64 c.cells) ∧ w'.cell? ⟨w.heap.size, 1, none⟩ = some (.int .i64 c.muts) ∧ w'.cell? ⟨w.heap.size, 2, none⟩ = some (.int .i64 c.regs) ∧ w'.cell? ⟨w.heap.size, 3, none⟩ = some (.int .i64 c.globs) ∧ w.heap.size + 1 ≤ w'.heap.size ∧ Below (w.heap.size + 1) (w.alloc c.mobj) w')
      (first
        | exact ⟨k0, k1, k2, k3, by simp, (Below.refl _ _).drew⟩
        | (go_split_ands; refine ⟨?_, ?_, ?_, ?_, ?_, ?_⟩ <;> first | (rw [hb2.cell (by first | (simp; done) | (simp; omega))]; assumption) | exact Below.trans (by assumption) (hb2.mono (by first | assumption | (simp; done) | (simp at *; omega))) | exact Nat.le_trans (by first | assumption | (simp; done) | (simp at *; omega)) hb2.size))
      (first | (go_at_call 119; refine (globs_any _ c).mono ?_; rintro e w2 ⟨rfl, hb2⟩))
  all_goals
    go_wp2_with fail
    go_ret
    go_split_ands
    exact ⟨by first | rfl | (simp only [i64_w]; rfl), HB0.out.trans (Below.mono (by assumption) (Nat.le_succ _))⟩

theorem cells_any (w : World) (c : Cfg) :
    Calls Tryd.prog 198 #[c.v] w fun e w' => e = .returned (.int .i64 (c.c0)) ∧ Below w.heap.size w w' := by
  obtain ⟨k0, k1, k2, k3⟩ := Cfg.mcells_at (heap_alloc_new w c.mobj)
  have HB0 : Hid (Below w.heap.size w (w.alloc c.mobj)) := (Below.refl _ _).alloc (Nat.le_refl _) _
  go_enter Tryd.func198, Tryd.ntmps198
  go_wp2_with fail
  go_region_held3 (fun w' => w'.cell? ⟨w.heap.size, 0, none⟩ = some (.int .i64 c.cells) ∧ w'.cell? ⟨w.heap.size, 1, none⟩ = some (.int .i64 c.muts) ∧ w'.cell? ⟨w.heap.size, 2, none⟩ = some (.int .i64 c.regs) ∧ w'.cell? ⟨w.heap.size, 3, none⟩ = some (.int .i64 c.globs) ∧ w.heap.size + 1 ≤ w'.heap.size ∧ Below (w.heap.size + 1) (w.alloc c.mobj) w')
      (first
        | exact ⟨k0, k1, k2, k3, by simp, (Below.refl _ _).drew⟩
        | (go_split_ands; refine ⟨?_, ?_, ?_, ?_, ?_, ?_⟩ <;> first | (rw [hb2.cell (by first | (simp; done) | (simp; omega))]; assumption) | exact Below.trans (by assumption) (hb2.mono (by first | assumption | (simp; done) | (simp at *; omega))) | exact Nat.le_trans (by first | assumption | (simp; done) | (simp at *; omega)) hb2.size))
      (first | (go_at_call 87; refine (regs_any _ c).mono ?_; rintro e w2 ⟨rfl, hb2⟩))
  all_goals
    go_wp2_with fail
    go_ret
    go_split_ands
    exact ⟨by first | rfl | (simp only [i64_w]; rfl), HB0.out.trans (Below.mono (by assumption) (Nat.le_succ _))⟩

theorem car_any (w : World) (c : Cfg) (i : Int) :
    Calls Tryd.prog 196 #[c.v, .int .i64 i] w fun e w' => e = .returned (.int .i64 (c.at_ c.c0 i c.cells 3)) ∧ Below w.heap.size w w' := by
  obtain ⟨k0, k1, k2, k3⟩ := Cfg.mcells_at (heap_alloc_new w c.mobj)
  have HB0 : Hid (Below w.heap.size w (w.alloc c.mobj)) := (Below.refl _ _).alloc (Nat.le_refl _) _
  go_enter Tryd.func196, Tryd.ntmps196
  go_wp2_with fail
  go_region_held3 (fun w' => w'.cell? ⟨w.heap.size, 0, none⟩ = some (.int .i64 c.cells) ∧ w'.cell? ⟨w.heap.size, 1, none⟩ = some (.int .i64 c.muts) ∧ w'.cell? ⟨w.heap.size, 2, none⟩ = some (.int .i64 c.regs) ∧ w'.cell? ⟨w.heap.size, 3, none⟩ = some (.int .i64 c.globs) ∧ w.heap.size + 1 ≤ w'.heap.size ∧ Below (w.heap.size + 1) (w.alloc c.mobj) w')
      (first
        | exact ⟨k0, k1, k2, k3, by simp, (Below.refl _ _).drew⟩
        | (go_split_ands; refine ⟨?_, ?_, ?_, ?_, ?_, ?_⟩ <;> first | (rw [hb2.cell (by first | (simp; done) | (simp; omega))]; assumption) | exact Below.trans (by assumption) (hb2.mono (by first | assumption | (simp; done) | (simp at *; omega))) | exact Nat.le_trans (by first | assumption | (simp; done) | (simp at *; omega)) hb2.size))
      (first | (go_at_call 198; refine (cells_any _ c).mono ?_; rintro e w2 ⟨rfl, hb2⟩) | (go_at_call 86; refine (mat_any _ c _ _ _ _).mono ?_; rintro e w2 ⟨rfl, hb2⟩))
  all_goals
    go_wp2_with fail
    go_ret
    go_split_ands
    exact ⟨by first | rfl | (simp only [i64_w]; rfl), HB0.out.trans (Below.mono (by assumption) (Nat.le_succ _))⟩

theorem cdr_any (w : World) (c : Cfg) (i : Int) :
    Calls Tryd.prog 197 #[c.v, .int .i64 i] w fun e w' => e = .returned (.int .i64 (c.at_ (wrap64 (c.c0 + 1)) i c.cells 3)) ∧ Below w.heap.size w w' := by
  obtain ⟨k0, k1, k2, k3⟩ := Cfg.mcells_at (heap_alloc_new w c.mobj)
  have HB0 : Hid (Below w.heap.size w (w.alloc c.mobj)) := (Below.refl _ _).alloc (Nat.le_refl _) _
  go_enter Tryd.func197, Tryd.ntmps197
  go_wp2_with fail
  go_region_held3 (fun w' => w'.cell? ⟨w.heap.size, 0, none⟩ = some (.int .i64 c.cells) ∧ w'.cell? ⟨w.heap.size, 1, none⟩ = some (.int .i64 c.muts) ∧ w'.cell? ⟨w.heap.size, 2, none⟩ = some (.int .i64 c.regs) ∧ w'.cell? ⟨w.heap.size, 3, none⟩ = some (.int .i64 c.globs) ∧ w.heap.size + 1 ≤ w'.heap.size ∧ Below (w.heap.size + 1) (w.alloc c.mobj) w')
      (first
        | exact ⟨k0, k1, k2, k3, by simp, (Below.refl _ _).drew⟩
        | (go_split_ands; refine ⟨?_, ?_, ?_, ?_, ?_, ?_⟩ <;> first | (rw [hb2.cell (by first | (simp; done) | (simp; omega))]; assumption) | exact Below.trans (by assumption) (hb2.mono (by first | assumption | (simp; done) | (simp at *; omega))) | exact Nat.le_trans (by first | assumption | (simp; done) | (simp at *; omega)) hb2.size))
      (first | (go_at_call 198; refine (cells_any _ c).mono ?_; rintro e w2 ⟨rfl, hb2⟩) | (go_at_call 86; refine (mat_any _ c _ _ _ _).mono ?_; rintro e w2 ⟨rfl, hb2⟩))
  all_goals
    go_wp2_with fail
    go_ret
    go_split_ands
    exact ⟨by first | rfl | (simp only [i64_w]; rfl), HB0.out.trans (Below.mono (by assumption) (Nat.le_succ _))⟩

/-- a register's place -/
def Cfg.reg_ (c : Cfg) (i r : Int) : Int := if 0 ≤ i ∧ i < c.muts then c.at_ (wrap64 (c.r0 + wrap64 (i * c.regs))) r c.regs 1 else -1
theorem reg_any (w : World) (c : Cfg) (i r : Int) :
    Calls Tryd.prog 46 #[c.v, .int .i64 i, .int .i64 r] w fun e w' => e = .returned (.int .i64 (c.reg_ i r)) ∧ Below w.heap.size w w' := by
  obtain ⟨k0, k1, k2, k3⟩ := Cfg.mcells_at (heap_alloc_new w c.mobj)
  have HB0 : Hid (Below w.heap.size w (w.alloc c.mobj)) := (Below.refl _ _).alloc (Nat.le_refl _) _
  by_cases h0 : i < 0
  · have d0 : decide (i < 0) = true := by simpa using h0
    have hr : Hid (c.reg_ i r = -1) := by unfold Cfg.reg_ Hid; rw [if_neg (by omega)]
    clear h0
    go_enter Tryd.func46, Tryd.ntmps46
    go_wp2_with fail
    go_ret
    exact ⟨by rw [hr.out]; rfl, HB0.out⟩
  · have d0 : decide (i < 0) = false := by simpa using h0
    by_cases h1 : c.muts ≤ i
    · have d1 : decide (c.muts ≤ i) = true := by simpa using h1
      have hr : Hid (c.reg_ i r = -1) := by unfold Cfg.reg_ Hid; rw [if_neg (by omega)]
      clear h0 h1
      go_enter Tryd.func46, Tryd.ntmps46
      go_wp2_with fail
      go_ret
      exact ⟨by rw [hr.out]; rfl, HB0.out⟩
    · have d1 : decide (c.muts ≤ i) = false := by simpa using h1
      have hr : Hid (c.reg_ i r = c.at_ (wrap64 (c.r0 + wrap64 (i * c.regs))) r c.regs 1) := by unfold Cfg.reg_ Hid; rw [if_pos (by omega)]
      clear h0 h1
      go_enter Tryd.func46, Tryd.ntmps46
      go_wp2_with fail
      go_region_held3 (fun w' => w'.cell? ⟨w.heap.size, 0, none⟩ = some (.int .i64 c.cells) ∧ w'.cell? ⟨w.heap.size, 1, none⟩ = some (.int .i64 c.muts) ∧ w'.cell? ⟨w.heap.size, 2, none⟩ = some (.int .i64 c.regs) ∧ w'.cell? ⟨w.heap.size, 3, none⟩ = some (.int .i64 c.globs) ∧ w.heap.size + 1 ≤ w'.heap.size ∧ Below (w.heap.size + 1) (w.alloc c.mobj) w')
      (first
        | exact ⟨k0, k1, k2, k3, by simp, (Below.refl _ _).drew⟩
        | (go_split_ands; refine ⟨?_, ?_, ?_, ?_, ?_, ?_⟩ <;> first | (rw [hb2.cell (by first | (simp; done) | (simp; omega))]; assumption) | exact Below.trans (by assumption) (hb2.mono (by first | assumption | (simp; done) | (simp at *; omega))) | exact Nat.le_trans (by first | assumption | (simp; done) | (simp at *; omega)) hb2.size))
      (first | (go_at_call 87; refine (regs_any _ c).mono ?_; rintro e w2 ⟨rfl, hb2⟩) | (go_at_call 86; refine (mat_any _ c _ _ _ _).mono ?_; rintro e w2 ⟨rfl, hb2⟩))
      all_goals
        go_wp2_with fail
        go_ret
        go_split_ands
        exact ⟨by rw [hr.out]; simp only [i64_w]; rfl, HB0.out.trans (Below.mono (by assumption) (Nat.le_succ _))⟩

/-- a root's place -/
def Cfg.root_ (c : Cfg) (j : Int) : Int := if c.ok = true ∧ ¬ j = 0 then c.at_ c.g0 (wrap64 (j - 1)) (wrap64 (c.globs + wrap64 (c.muts * c.regs))) 1 else c.at_ 0 j 1 1
end Go.Proofs.YtipoklnoknkfhaaDoor
namespace Go.Proofs.YtipoklnoknkfhaaDoor
open Go Go.RowKit
set_option linter.unusedSimpArgs false
set_option linter.unusedVariables false

theorem ret_int {k : IntKind} {a b : Int} (h : a = b) : Ending.returned (.int k a) = .returned (.int k b) := by rw [h]
def Cfg.refAt (c : Cfg) (k a b : Int) : Int :=
  if c.ok = true ∧ 0 ≤ a ∧ 0 ≤ b then
    if k = 1 then (if a < c.muts then 5 + a else -1)
    else if k = 2 then (if a < c.globs then 5 + c.muts + a else -1)
    else if k = 3 then (if a < c.muts ∧ b < c.regs then 5 + c.muts + c.globs + a * c.regs + b else -1)
    else (if a < c.cells then 5 + c.muts + c.globs + c.muts * c.regs + 3 * a + k - 4 else -1)
  else -1
abbrev spotObj (k a b : Int) : Obj := .cells #[.int .i64 k, .int .i64 a, .int .i64 b] 45

/-- the walk's own steps into At: behind the call of Right -/
theorem refat_no (w : World) (c : Cfg) (k a b : Int) (h : ¬ (c.ok = true ∧ 0 ≤ a ∧ 0 ≤ b)) :
    Calls Tryd.prog 17 #[c.v, .agg #[.int .i64 k, .int .i64 a, .int .i64 b]] w fun e w' => e = .returned (.int .i64 (-1)) ∧ Below w.heap.size w w' := by
  have HB0 : Hid (Below w.heap.size w ((w.alloc c.obj).alloc (spotObj k a b))) := ((Below.refl _ _).alloc (Nat.le_refl _) _).alloc (by simp) _
  generalize hok : c.ok = ok at h
  have HOK := Lib.hid hok
  clear hok
  cases ok
  · go_enter Tryd.func17, Tryd.ntmps17
    go_wp2_with fail
    refine (refright_any _ c).mono ?_
    rintro e w1 ⟨rfl, hb⟩
    rw [HOK.out]
    have HB : Hid (Below w.heap.size w w1) := HB0.out.trans (hb.mono (by simp; omega))
    clear hb
    go_wp2_with fail
    go_ret
    exact ⟨rfl, HB.out⟩
  · by_cases ha : a < 0
    · have d1 : decide (a < 0) = true := by simpa using ha
      clear h ha
      go_enter Tryd.func17, Tryd.ntmps17
      go_wp2_with fail
      refine (refright_any _ c).mono ?_
      rintro e w1 ⟨rfl, hb⟩
      rw [HOK.out]
      have HB : Hid (Below w.heap.size w w1) := HB0.out.trans (hb.mono (by simp; omega))
      have hb2 := (hb.block (w.heap.size + 1) (by simp)).trans (heap_new2 w c.obj (spotObj k a b))
      have s1 : w1.cell? ⟨w.heap.size + 1, 1, none⟩ = some (.int .i64 a) := cell_of_block hb2 1
      clear hb hb2
      go_wp2_with fail
      go_ret
      exact ⟨rfl, HB.out⟩
    · have d1 : decide (a < 0) = false := by simpa using ha
      have d2 : decide (b < 0) = true := by
        have hnb : ¬ 0 ≤ b := fun y => h ⟨rfl, by omega, y⟩
        simp
        omega
      clear h ha
      go_enter Tryd.func17, Tryd.ntmps17
      go_wp2_with fail
      refine (refright_any _ c).mono ?_
      rintro e w1 ⟨rfl, hb⟩
      rw [HOK.out]
      have HB : Hid (Below w.heap.size w w1) := HB0.out.trans (hb.mono (by simp; omega))
      have hb2 := (hb.block (w.heap.size + 1) (by simp)).trans (heap_new2 w c.obj (spotObj k a b))
      have s1 : w1.cell? ⟨w.heap.size + 1, 1, none⟩ = some (.int .i64 a) := cell_of_block hb2 1
      have s2 : w1.cell? ⟨w.heap.size + 1, 2, none⟩ = some (.int .i64 b) := cell_of_block hb2 2
      clear hb hb2
      go_wp2_with fail
      go_ret
      exact ⟨rfl, HB.out⟩

theorem refat_1 (w : World) (c : Cfg) (a b : Int) (hok : c.ok = true) (h0 : 0 ≤ a) (h1 : 0 ≤ b) :
    Calls Tryd.prog 17 #[c.v, .agg #[.int .i64 1, .int .i64 a, .int .i64 b]] w fun e w' => e = .returned (.int .i64 (c.refAt 1 a b)) ∧ Below w.heap.size w w' := by
  have HB0 : Hid (Below w.heap.size w ((w.alloc c.obj).alloc (spotObj 1 a b))) := ((Below.refl _ _).alloc (Nat.le_refl _) _).alloc (by simp) _
  obtain ⟨_, _⟩ := c.mr hok
  obtain ⟨_, _, _, _, _, _, _, _⟩ := c.ok_iff.1 hok
  have HOK := Lib.hid hok
  have dz1 : decide (a < 0) = false := by simp; omega
  have dz2 : decide (b < 0) = false := by simp; omega
  by_cases d : a < c.muts
  · have hr : Hid (c.refAt 1 a b = 5 + a) := by unfold Cfg.refAt Hid; rw [if_pos ⟨hok, h0, h1⟩]; simp [*]; try omega
    have d' : decide (a < c.muts) = true := by simpa using d
    have s_0 : IntKind.i64.wrap (5 + c.muts) = 5 + c.muts := IntWalk.i64_in _ (by omega)
    have s_1 : IntKind.i64.wrap (5 + c.muts + c.globs) = 5 + c.muts + c.globs := IntWalk.i64_in _ (by omega)
    have s_2 : IntKind.i64.wrap (c.muts * c.regs) = c.muts * c.regs := IntWalk.i64_in _ (by omega)
    have s_3 : IntKind.i64.wrap (5 + c.muts + c.globs + c.muts * c.regs) = 5 + c.muts + c.globs + c.muts * c.regs := IntWalk.i64_in _ (by omega)
    have s_4 : IntKind.i64.wrap (5 + a) = 5 + a := IntWalk.i64_in _ (by omega)
    clear hok
    go_enter Tryd.func17, Tryd.ntmps17
    go_wp2_with fail
    refine (refright_any _ c).mono ?_
    rintro e w1 ⟨rfl, hb⟩
    rw [HOK.out]
    have HB : Hid (Below w.heap.size w w1) := HB0.out.trans (hb.mono (by simp; omega))
    have hb1 := (hb.block w.heap.size (by simp; omega)).trans (heap_new1 w c.obj (spotObj 1 a b))
    have hb2 := (hb.block (w.heap.size + 1) (by simp)).trans (heap_new2 w c.obj (spotObj 1 a b))
    obtain ⟨k0, k1, k2, k3⟩ := Cfg.cells_at hb1
    have s0 : w1.cell? ⟨w.heap.size + 1, 0, none⟩ = some (.int .i64 1) := cell_of_block hb2 0
    have s1 : w1.cell? ⟨w.heap.size + 1, 1, none⟩ = some (.int .i64 a) := cell_of_block hb2 1
    have s2 : w1.cell? ⟨w.heap.size + 1, 2, none⟩ = some (.int .i64 b) := cell_of_block hb2 2
    clear hb hb1 hb2
    go_wp2_with fail
    go_ret
    exact ⟨by rw [hr.out]; first | rfl | exact ret_int (by omega), HB.out⟩
  · have hr : Hid (c.refAt 1 a b = -1) := by unfold Cfg.refAt Hid; rw [if_pos ⟨hok, h0, h1⟩]; simp [*]; try omega
    have d' : decide (a < c.muts) = false := by simpa using d
    have s_0 : IntKind.i64.wrap (5 + c.muts) = 5 + c.muts := IntWalk.i64_in _ (by omega)
    have s_1 : IntKind.i64.wrap (5 + c.muts + c.globs) = 5 + c.muts + c.globs := IntWalk.i64_in _ (by omega)
    have s_2 : IntKind.i64.wrap (c.muts * c.regs) = c.muts * c.regs := IntWalk.i64_in _ (by omega)
    have s_3 : IntKind.i64.wrap (5 + c.muts + c.globs + c.muts * c.regs) = 5 + c.muts + c.globs + c.muts * c.regs := IntWalk.i64_in _ (by omega)
    clear hok
    go_enter Tryd.func17, Tryd.ntmps17
    go_wp2_with fail
    refine (refright_any _ c).mono ?_
    rintro e w1 ⟨rfl, hb⟩
    rw [HOK.out]
    have HB : Hid (Below w.heap.size w w1) := HB0.out.trans (hb.mono (by simp; omega))
    have hb1 := (hb.block w.heap.size (by simp; omega)).trans (heap_new1 w c.obj (spotObj 1 a b))
    have hb2 := (hb.block (w.heap.size + 1) (by simp)).trans (heap_new2 w c.obj (spotObj 1 a b))
    obtain ⟨k0, k1, k2, k3⟩ := Cfg.cells_at hb1
    have s0 : w1.cell? ⟨w.heap.size + 1, 0, none⟩ = some (.int .i64 1) := cell_of_block hb2 0
    have s1 : w1.cell? ⟨w.heap.size + 1, 1, none⟩ = some (.int .i64 a) := cell_of_block hb2 1
    have s2 : w1.cell? ⟨w.heap.size + 1, 2, none⟩ = some (.int .i64 b) := cell_of_block hb2 2
    clear hb hb1 hb2
    go_wp2_with fail
    go_ret
    exact ⟨by rw [hr.out]; first | rfl | exact ret_int (by omega), HB.out⟩

theorem refat_2 (w : World) (c : Cfg) (a b : Int) (hok : c.ok = true) (h0 : 0 ≤ a) (h1 : 0 ≤ b) :
    Calls Tryd.prog 17 #[c.v, .agg #[.int .i64 2, .int .i64 a, .int .i64 b]] w fun e w' => e = .returned (.int .i64 (c.refAt 2 a b)) ∧ Below w.heap.size w w' := by
  have HB0 : Hid (Below w.heap.size w ((w.alloc c.obj).alloc (spotObj 2 a b))) := ((Below.refl _ _).alloc (Nat.le_refl _) _).alloc (by simp) _
  obtain ⟨_, _⟩ := c.mr hok
  obtain ⟨_, _, _, _, _, _, _, _⟩ := c.ok_iff.1 hok
  have HOK := Lib.hid hok
  have dz1 : decide (a < 0) = false := by simp; omega
  have dz2 : decide (b < 0) = false := by simp; omega
  by_cases d : a < c.globs
  · have hr : Hid (c.refAt 2 a b = 5 + c.muts + a) := by unfold Cfg.refAt Hid; rw [if_pos ⟨hok, h0, h1⟩]; simp [*]; try omega
    have d' : decide (a < c.globs) = true := by simpa using d
    have s_0 : IntKind.i64.wrap (5 + c.muts) = 5 + c.muts := IntWalk.i64_in _ (by omega)
    have s_1 : IntKind.i64.wrap (5 + c.muts + c.globs) = 5 + c.muts + c.globs := IntWalk.i64_in _ (by omega)
    have s_2 : IntKind.i64.wrap (c.muts * c.regs) = c.muts * c.regs := IntWalk.i64_in _ (by omega)
    have s_3 : IntKind.i64.wrap (5 + c.muts + c.globs + c.muts * c.regs) = 5 + c.muts + c.globs + c.muts * c.regs := IntWalk.i64_in _ (by omega)
    have s_4 : IntKind.i64.wrap (5 + c.muts + a) = 5 + c.muts + a := IntWalk.i64_in _ (by omega)
    clear hok
    go_enter Tryd.func17, Tryd.ntmps17
    go_wp2_with fail
    refine (refright_any _ c).mono ?_
    rintro e w1 ⟨rfl, hb⟩
    rw [HOK.out]
    have HB : Hid (Below w.heap.size w w1) := HB0.out.trans (hb.mono (by simp; omega))
    have hb1 := (hb.block w.heap.size (by simp; omega)).trans (heap_new1 w c.obj (spotObj 2 a b))
    have hb2 := (hb.block (w.heap.size + 1) (by simp)).trans (heap_new2 w c.obj (spotObj 2 a b))
    obtain ⟨k0, k1, k2, k3⟩ := Cfg.cells_at hb1
    have s0 : w1.cell? ⟨w.heap.size + 1, 0, none⟩ = some (.int .i64 2) := cell_of_block hb2 0
    have s1 : w1.cell? ⟨w.heap.size + 1, 1, none⟩ = some (.int .i64 a) := cell_of_block hb2 1
    have s2 : w1.cell? ⟨w.heap.size + 1, 2, none⟩ = some (.int .i64 b) := cell_of_block hb2 2
    clear hb hb1 hb2
    go_wp2_with fail
    go_ret
    exact ⟨by rw [hr.out]; first | rfl | exact ret_int (by omega), HB.out⟩
  · have hr : Hid (c.refAt 2 a b = -1) := by unfold Cfg.refAt Hid; rw [if_pos ⟨hok, h0, h1⟩]; simp [*]; try omega
    have d' : decide (a < c.globs) = false := by simpa using d
    have s_0 : IntKind.i64.wrap (5 + c.muts) = 5 + c.muts := IntWalk.i64_in _ (by omega)
    have s_1 : IntKind.i64.wrap (5 + c.muts + c.globs) = 5 + c.muts + c.globs := IntWalk.i64_in _ (by omega)
    have s_2 : IntKind.i64.wrap (c.muts * c.regs) = c.muts * c.regs := IntWalk.i64_in _ (by omega)
    have s_3 : IntKind.i64.wrap (5 + c.muts + c.globs + c.muts * c.regs) = 5 + c.muts + c.globs + c.muts * c.regs := IntWalk.i64_in _ (by omega)
    clear hok
    go_enter Tryd.func17, Tryd.ntmps17
    go_wp2_with fail
    refine (refright_any _ c).mono ?_
    rintro e w1 ⟨rfl, hb⟩
    rw [HOK.out]
    have HB : Hid (Below w.heap.size w w1) := HB0.out.trans (hb.mono (by simp; omega))
    have hb1 := (hb.block w.heap.size (by simp; omega)).trans (heap_new1 w c.obj (spotObj 2 a b))
    have hb2 := (hb.block (w.heap.size + 1) (by simp)).trans (heap_new2 w c.obj (spotObj 2 a b))
    obtain ⟨k0, k1, k2, k3⟩ := Cfg.cells_at hb1
    have s0 : w1.cell? ⟨w.heap.size + 1, 0, none⟩ = some (.int .i64 2) := cell_of_block hb2 0
    have s1 : w1.cell? ⟨w.heap.size + 1, 1, none⟩ = some (.int .i64 a) := cell_of_block hb2 1
    have s2 : w1.cell? ⟨w.heap.size + 1, 2, none⟩ = some (.int .i64 b) := cell_of_block hb2 2
    clear hb hb1 hb2
    go_wp2_with fail
    go_ret
    exact ⟨by rw [hr.out]; first | rfl | exact ret_int (by omega), HB.out⟩

theorem refat_3 (w : World) (c : Cfg) (a b : Int) (hok : c.ok = true) (h0 : 0 ≤ a) (h1 : 0 ≤ b) :
    Calls Tryd.prog 17 #[c.v, .agg #[.int .i64 3, .int .i64 a, .int .i64 b]] w fun e w' => e = .returned (.int .i64 (c.refAt 3 a b)) ∧ Below w.heap.size w w' := by
  have HB0 : Hid (Below w.heap.size w ((w.alloc c.obj).alloc (spotObj 3 a b))) := ((Below.refl _ _).alloc (Nat.le_refl _) _).alloc (by simp) _
  obtain ⟨_, _⟩ := c.mr hok
  obtain ⟨_, _, _, _, _, _, _, _⟩ := c.ok_iff.1 hok
  have HOK := Lib.hid hok
  have dz1 : decide (a < 0) = false := by simp; omega
  have dz2 : decide (b < 0) = false := by simp; omega
  by_cases d : a < c.muts
  · by_cases d2 : b < c.regs
    · have hr : Hid (c.refAt 3 a b = 5 + c.muts + c.globs + a * c.regs + b) := by unfold Cfg.refAt Hid; rw [if_pos ⟨hok, h0, h1⟩]; simp [*]; try omega
      have d' : decide (a < c.muts) = true := by simpa using d
      have d2' : decide (b < c.regs) = true := by simpa using d2
      have hm := mul_bd (a := a) (b := c.regs) (x := 63) (y := 64) (by omega) (by omega) (by omega) (by omega)
      obtain ⟨_, _⟩ := hm
      have s_0 : IntKind.i64.wrap (5 + c.muts) = 5 + c.muts := IntWalk.i64_in _ (by omega)
      have s_1 : IntKind.i64.wrap (5 + c.muts + c.globs) = 5 + c.muts + c.globs := IntWalk.i64_in _ (by omega)
      have s_2 : IntKind.i64.wrap (c.muts * c.regs) = c.muts * c.regs := IntWalk.i64_in _ (by omega)
      have s_3 : IntKind.i64.wrap (5 + c.muts + c.globs + c.muts * c.regs) = 5 + c.muts + c.globs + c.muts * c.regs := IntWalk.i64_in _ (by omega)
      have s_4 : IntKind.i64.wrap (a * c.regs) = a * c.regs := IntWalk.i64_in _ (by omega)
      have s_5 : IntKind.i64.wrap (5 + c.muts + c.globs + a * c.regs) = 5 + c.muts + c.globs + a * c.regs := IntWalk.i64_in _ (by omega)
      have s_6 : IntKind.i64.wrap (5 + c.muts + c.globs + a * c.regs + b) = 5 + c.muts + c.globs + a * c.regs + b := IntWalk.i64_in _ (by omega)
      clear hok
      go_enter Tryd.func17, Tryd.ntmps17
      go_wp2_with fail
      refine (refright_any _ c).mono ?_
      rintro e w1 ⟨rfl, hb⟩
      rw [HOK.out]
      have HB : Hid (Below w.heap.size w w1) := HB0.out.trans (hb.mono (by simp; omega))
      have hb1 := (hb.block w.heap.size (by simp; omega)).trans (heap_new1 w c.obj (spotObj 3 a b))
      have hb2 := (hb.block (w.heap.size + 1) (by simp)).trans (heap_new2 w c.obj (spotObj 3 a b))
      obtain ⟨k0, k1, k2, k3⟩ := Cfg.cells_at hb1
      have s0 : w1.cell? ⟨w.heap.size + 1, 0, none⟩ = some (.int .i64 3) := cell_of_block hb2 0
      have s1 : w1.cell? ⟨w.heap.size + 1, 1, none⟩ = some (.int .i64 a) := cell_of_block hb2 1
      have s2 : w1.cell? ⟨w.heap.size + 1, 2, none⟩ = some (.int .i64 b) := cell_of_block hb2 2
      clear hb hb1 hb2
      go_wp2_with fail
      go_ret
      exact ⟨by rw [hr.out]; first | rfl | exact ret_int (by omega), HB.out⟩
    · have hr : Hid (c.refAt 3 a b = -1) := by unfold Cfg.refAt Hid; rw [if_pos ⟨hok, h0, h1⟩]; simp [*]; try omega
      have d' : decide (a < c.muts) = true := by simpa using d
      have d2' : decide (b < c.regs) = false := by simpa using d2
      have s_0 : IntKind.i64.wrap (5 + c.muts) = 5 + c.muts := IntWalk.i64_in _ (by omega)
      have s_1 : IntKind.i64.wrap (5 + c.muts + c.globs) = 5 + c.muts + c.globs := IntWalk.i64_in _ (by omega)
      have s_2 : IntKind.i64.wrap (c.muts * c.regs) = c.muts * c.regs := IntWalk.i64_in _ (by omega)
      have s_3 : IntKind.i64.wrap (5 + c.muts + c.globs + c.muts * c.regs) = 5 + c.muts + c.globs + c.muts * c.regs := IntWalk.i64_in _ (by omega)
      clear hok
      go_enter Tryd.func17, Tryd.ntmps17
      go_wp2_with fail
      refine (refright_any _ c).mono ?_
      rintro e w1 ⟨rfl, hb⟩
      rw [HOK.out]
      have HB : Hid (Below w.heap.size w w1) := HB0.out.trans (hb.mono (by simp; omega))
      have hb1 := (hb.block w.heap.size (by simp; omega)).trans (heap_new1 w c.obj (spotObj 3 a b))
      have hb2 := (hb.block (w.heap.size + 1) (by simp)).trans (heap_new2 w c.obj (spotObj 3 a b))
      obtain ⟨k0, k1, k2, k3⟩ := Cfg.cells_at hb1
      have s0 : w1.cell? ⟨w.heap.size + 1, 0, none⟩ = some (.int .i64 3) := cell_of_block hb2 0
      have s1 : w1.cell? ⟨w.heap.size + 1, 1, none⟩ = some (.int .i64 a) := cell_of_block hb2 1
      have s2 : w1.cell? ⟨w.heap.size + 1, 2, none⟩ = some (.int .i64 b) := cell_of_block hb2 2
      clear hb hb1 hb2
      go_wp2_with fail
      go_ret
      exact ⟨by rw [hr.out]; first | rfl | exact ret_int (by omega), HB.out⟩
  · have hr : Hid (c.refAt 3 a b = -1) := by unfold Cfg.refAt Hid; rw [if_pos ⟨hok, h0, h1⟩]; simp [*]; try omega
    have d' : decide (a < c.muts) = false := by simpa using d
    have s_0 : IntKind.i64.wrap (5 + c.muts) = 5 + c.muts := IntWalk.i64_in _ (by omega)
    have s_1 : IntKind.i64.wrap (5 + c.muts + c.globs) = 5 + c.muts + c.globs := IntWalk.i64_in _ (by omega)
    have s_2 : IntKind.i64.wrap (c.muts * c.regs) = c.muts * c.regs := IntWalk.i64_in _ (by omega)
    have s_3 : IntKind.i64.wrap (5 + c.muts + c.globs + c.muts * c.regs) = 5 + c.muts + c.globs + c.muts * c.regs := IntWalk.i64_in _ (by omega)
    clear hok
    go_enter Tryd.func17, Tryd.ntmps17
    go_wp2_with fail
    refine (refright_any _ c).mono ?_
    rintro e w1 ⟨rfl, hb⟩
    rw [HOK.out]
    have HB : Hid (Below w.heap.size w w1) := HB0.out.trans (hb.mono (by simp; omega))
    have hb1 := (hb.block w.heap.size (by simp; omega)).trans (heap_new1 w c.obj (spotObj 3 a b))
    have hb2 := (hb.block (w.heap.size + 1) (by simp)).trans (heap_new2 w c.obj (spotObj 3 a b))
    obtain ⟨k0, k1, k2, k3⟩ := Cfg.cells_at hb1
    have s0 : w1.cell? ⟨w.heap.size + 1, 0, none⟩ = some (.int .i64 3) := cell_of_block hb2 0
    have s1 : w1.cell? ⟨w.heap.size + 1, 1, none⟩ = some (.int .i64 a) := cell_of_block hb2 1
    have s2 : w1.cell? ⟨w.heap.size + 1, 2, none⟩ = some (.int .i64 b) := cell_of_block hb2 2
    clear hb hb1 hb2
    go_wp2_with fail
    go_ret
    exact ⟨by rw [hr.out]; first | rfl | exact ret_int (by omega), HB.out⟩

theorem refat_4 (w : World) (c : Cfg) (a b : Int) (hok : c.ok = true) (h0 : 0 ≤ a) (h1 : 0 ≤ b) :
    Calls Tryd.prog 17 #[c.v, .agg #[.int .i64 4, .int .i64 a, .int .i64 b]] w fun e w' => e = .returned (.int .i64 (c.refAt 4 a b)) ∧ Below w.heap.size w w' := by
  have HB0 : Hid (Below w.heap.size w ((w.alloc c.obj).alloc (spotObj 4 a b))) := ((Below.refl _ _).alloc (Nat.le_refl _) _).alloc (by simp) _
  obtain ⟨_, _⟩ := c.mr hok
  obtain ⟨_, _, _, _, _, _, _, _⟩ := c.ok_iff.1 hok
  have HOK := Lib.hid hok
  have dz1 : decide (a < 0) = false := by simp; omega
  have dz2 : decide (b < 0) = false := by simp; omega
  by_cases d : a < c.cells
  · have hr : Hid (c.refAt 4 a b = 5 + c.muts + c.globs + c.muts * c.regs + 3 * a + 4 - 4) := by unfold Cfg.refAt Hid; rw [if_pos ⟨hok, h0, h1⟩]; simp [*]; try omega
    have d' : decide (a < c.cells) = true := by simpa using d
    have s_0 : IntKind.i64.wrap (5 + c.muts) = 5 + c.muts := IntWalk.i64_in _ (by omega)
    have s_1 : IntKind.i64.wrap (5 + c.muts + c.globs) = 5 + c.muts + c.globs := IntWalk.i64_in _ (by omega)
    have s_2 : IntKind.i64.wrap (c.muts * c.regs) = c.muts * c.regs := IntWalk.i64_in _ (by omega)
    have s_3 : IntKind.i64.wrap (5 + c.muts + c.globs + c.muts * c.regs) = 5 + c.muts + c.globs + c.muts * c.regs := IntWalk.i64_in _ (by omega)
    have s_4 : IntKind.i64.wrap (3 * a) = 3 * a := IntWalk.i64_in _ (by omega)
    have s_5 : IntKind.i64.wrap (5 + c.muts + c.globs + c.muts * c.regs + 3 * a) = 5 + c.muts + c.globs + c.muts * c.regs + 3 * a := IntWalk.i64_in _ (by omega)
    have s_6 : IntKind.i64.wrap (5 + c.muts + c.globs + c.muts * c.regs + 3 * a + 4) = 5 + c.muts + c.globs + c.muts * c.regs + 3 * a + 4 := IntWalk.i64_in _ (by omega)
    have s_7 : IntKind.i64.wrap (5 + c.muts + c.globs + c.muts * c.regs + 3 * a + 4 - 4) = 5 + c.muts + c.globs + c.muts * c.regs + 3 * a + 4 - 4 := IntWalk.i64_in _ (by omega)
    clear hok
    go_enter Tryd.func17, Tryd.ntmps17
    go_wp2_with fail
    refine (refright_any _ c).mono ?_
    rintro e w1 ⟨rfl, hb⟩
    rw [HOK.out]
    have HB : Hid (Below w.heap.size w w1) := HB0.out.trans (hb.mono (by simp; omega))
    have hb1 := (hb.block w.heap.size (by simp; omega)).trans (heap_new1 w c.obj (spotObj 4 a b))
    have hb2 := (hb.block (w.heap.size + 1) (by simp)).trans (heap_new2 w c.obj (spotObj 4 a b))
    obtain ⟨k0, k1, k2, k3⟩ := Cfg.cells_at hb1
    have s0 : w1.cell? ⟨w.heap.size + 1, 0, none⟩ = some (.int .i64 4) := cell_of_block hb2 0
    have s1 : w1.cell? ⟨w.heap.size + 1, 1, none⟩ = some (.int .i64 a) := cell_of_block hb2 1
    have s2 : w1.cell? ⟨w.heap.size + 1, 2, none⟩ = some (.int .i64 b) := cell_of_block hb2 2
    clear hb hb1 hb2
    go_wp2_with fail
    go_ret
    exact ⟨by rw [hr.out]; first | rfl | exact ret_int (by omega), HB.out⟩
  · have hr : Hid (c.refAt 4 a b = -1) := by unfold Cfg.refAt Hid; rw [if_pos ⟨hok, h0, h1⟩]; simp [*]; try omega
    have d' : decide (a < c.cells) = false := by simpa using d
    have s_0 : IntKind.i64.wrap (5 + c.muts) = 5 + c.muts := IntWalk.i64_in _ (by omega)
    have s_1 : IntKind.i64.wrap (5 + c.muts + c.globs) = 5 + c.muts + c.globs := IntWalk.i64_in _ (by omega)
    have s_2 : IntKind.i64.wrap (c.muts * c.regs) = c.muts * c.regs := IntWalk.i64_in _ (by omega)
    have s_3 : IntKind.i64.wrap (5 + c.muts + c.globs + c.muts * c.regs) = 5 + c.muts + c.globs + c.muts * c.regs := IntWalk.i64_in _ (by omega)
    clear hok
    go_enter Tryd.func17, Tryd.ntmps17
    go_wp2_with fail
    refine (refright_any _ c).mono ?_
    rintro e w1 ⟨rfl, hb⟩
    rw [HOK.out]
    have HB : Hid (Below w.heap.size w w1) := HB0.out.trans (hb.mono (by simp; omega))
    have hb1 := (hb.block w.heap.size (by simp; omega)).trans (heap_new1 w c.obj (spotObj 4 a b))
    have hb2 := (hb.block (w.heap.size + 1) (by simp)).trans (heap_new2 w c.obj (spotObj 4 a b))
    obtain ⟨k0, k1, k2, k3⟩ := Cfg.cells_at hb1
    have s0 : w1.cell? ⟨w.heap.size + 1, 0, none⟩ = some (.int .i64 4) := cell_of_block hb2 0
    have s1 : w1.cell? ⟨w.heap.size + 1, 1, none⟩ = some (.int .i64 a) := cell_of_block hb2 1
    have s2 : w1.cell? ⟨w.heap.size + 1, 2, none⟩ = some (.int .i64 b) := cell_of_block hb2 2
    clear hb hb1 hb2
    go_wp2_with fail
    go_ret
    exact ⟨by rw [hr.out]; first | rfl | exact ret_int (by omega), HB.out⟩

theorem refat_5 (w : World) (c : Cfg) (a b : Int) (hok : c.ok = true) (h0 : 0 ≤ a) (h1 : 0 ≤ b) :
    Calls Tryd.prog 17 #[c.v, .agg #[.int .i64 5, .int .i64 a, .int .i64 b]] w fun e w' => e = .returned (.int .i64 (c.refAt 5 a b)) ∧ Below w.heap.size w w' := by
  have HB0 : Hid (Below w.heap.size w ((w.alloc c.obj).alloc (spotObj 5 a b))) := ((Below.refl _ _).alloc (Nat.le_refl _) _).alloc (by simp) _
  obtain ⟨_, _⟩ := c.mr hok
  obtain ⟨_, _, _, _, _, _, _, _⟩ := c.ok_iff.1 hok
  have HOK := Lib.hid hok
  have dz1 : decide (a < 0) = false := by simp; omega
  have dz2 : decide (b < 0) = false := by simp; omega
  by_cases d : a < c.cells
  · have hr : Hid (c.refAt 5 a b = 5 + c.muts + c.globs + c.muts * c.regs + 3 * a + 5 - 4) := by unfold Cfg.refAt Hid; rw [if_pos ⟨hok, h0, h1⟩]; simp [*]; try omega
    have d' : decide (a < c.cells) = true := by simpa using d
    have s_0 : IntKind.i64.wrap (5 + c.muts) = 5 + c.muts := IntWalk.i64_in _ (by omega)
    have s_1 : IntKind.i64.wrap (5 + c.muts + c.globs) = 5 + c.muts + c.globs := IntWalk.i64_in _ (by omega)
    have s_2 : IntKind.i64.wrap (c.muts * c.regs) = c.muts * c.regs := IntWalk.i64_in _ (by omega)
    have s_3 : IntKind.i64.wrap (5 + c.muts + c.globs + c.muts * c.regs) = 5 + c.muts + c.globs + c.muts * c.regs := IntWalk.i64_in _ (by omega)
    have s_4 : IntKind.i64.wrap (3 * a) = 3 * a := IntWalk.i64_in _ (by omega)
    have s_5 : IntKind.i64.wrap (5 + c.muts + c.globs + c.muts * c.regs + 3 * a) = 5 + c.muts + c.globs + c.muts * c.regs + 3 * a := IntWalk.i64_in _ (by omega)
    have s_6 : IntKind.i64.wrap (5 + c.muts + c.globs + c.muts * c.regs + 3 * a + 5) = 5 + c.muts + c.globs + c.muts * c.regs + 3 * a + 5 := IntWalk.i64_in _ (by omega)
    have s_7 : IntKind.i64.wrap (5 + c.muts + c.globs + c.muts * c.regs + 3 * a + 5 - 4) = 5 + c.muts + c.globs + c.muts * c.regs + 3 * a + 5 - 4 := IntWalk.i64_in _ (by omega)
    clear hok
    go_enter Tryd.func17, Tryd.ntmps17
    go_wp2_with fail
    refine (refright_any _ c).mono ?_
    rintro e w1 ⟨rfl, hb⟩
    rw [HOK.out]
    have HB : Hid (Below w.heap.size w w1) := HB0.out.trans (hb.mono (by simp; omega))
    have hb1 := (hb.block w.heap.size (by simp; omega)).trans (heap_new1 w c.obj (spotObj 5 a b))
    have hb2 := (hb.block (w.heap.size + 1) (by simp)).trans (heap_new2 w c.obj (spotObj 5 a b))
    obtain ⟨k0, k1, k2, k3⟩ := Cfg.cells_at hb1
    have s0 : w1.cell? ⟨w.heap.size + 1, 0, none⟩ = some (.int .i64 5) := cell_of_block hb2 0
    have s1 : w1.cell? ⟨w.heap.size + 1, 1, none⟩ = some (.int .i64 a) := cell_of_block hb2 1
    have s2 : w1.cell? ⟨w.heap.size + 1, 2, none⟩ = some (.int .i64 b) := cell_of_block hb2 2
    clear hb hb1 hb2
    go_wp2_with fail
    go_ret
    exact ⟨by rw [hr.out]; first | rfl | exact ret_int (by omega), HB.out⟩
  · have hr : Hid (c.refAt 5 a b = -1) := by unfold Cfg.refAt Hid; rw [if_pos ⟨hok, h0, h1⟩]; simp [*]; try omega
    have d' : decide (a < c.cells) = false := by simpa using d
    have s_0 : IntKind.i64.wrap (5 + c.muts) = 5 + c.muts := IntWalk.i64_in _ (by omega)
    have s_1 : IntKind.i64.wrap (5 + c.muts + c.globs) = 5 + c.muts + c.globs := IntWalk.i64_in _ (by omega)
    have s_2 : IntKind.i64.wrap (c.muts * c.regs) = c.muts * c.regs := IntWalk.i64_in _ (by omega)
    have s_3 : IntKind.i64.wrap (5 + c.muts + c.globs + c.muts * c.regs) = 5 + c.muts + c.globs + c.muts * c.regs := IntWalk.i64_in _ (by omega)
    clear hok
    go_enter Tryd.func17, Tryd.ntmps17
    go_wp2_with fail
    refine (refright_any _ c).mono ?_
    rintro e w1 ⟨rfl, hb⟩
    rw [HOK.out]
    have HB : Hid (Below w.heap.size w w1) := HB0.out.trans (hb.mono (by simp; omega))
    have hb1 := (hb.block w.heap.size (by simp; omega)).trans (heap_new1 w c.obj (spotObj 5 a b))
    have hb2 := (hb.block (w.heap.size + 1) (by simp)).trans (heap_new2 w c.obj (spotObj 5 a b))
    obtain ⟨k0, k1, k2, k3⟩ := Cfg.cells_at hb1
    have s0 : w1.cell? ⟨w.heap.size + 1, 0, none⟩ = some (.int .i64 5) := cell_of_block hb2 0
    have s1 : w1.cell? ⟨w.heap.size + 1, 1, none⟩ = some (.int .i64 a) := cell_of_block hb2 1
    have s2 : w1.cell? ⟨w.heap.size + 1, 2, none⟩ = some (.int .i64 b) := cell_of_block hb2 2
    clear hb hb1 hb2
    go_wp2_with fail
    go_ret
    exact ⟨by rw [hr.out]; first | rfl | exact ret_int (by omega), HB.out⟩

theorem refat_6 (w : World) (c : Cfg) (a b : Int) (hok : c.ok = true) (h0 : 0 ≤ a) (h1 : 0 ≤ b) :
    Calls Tryd.prog 17 #[c.v, .agg #[.int .i64 6, .int .i64 a, .int .i64 b]] w fun e w' => e = .returned (.int .i64 (c.refAt 6 a b)) ∧ Below w.heap.size w w' := by
  have HB0 : Hid (Below w.heap.size w ((w.alloc c.obj).alloc (spotObj 6 a b))) := ((Below.refl _ _).alloc (Nat.le_refl _) _).alloc (by simp) _
  obtain ⟨_, _⟩ := c.mr hok
  obtain ⟨_, _, _, _, _, _, _, _⟩ := c.ok_iff.1 hok
  have HOK := Lib.hid hok
  have dz1 : decide (a < 0) = false := by simp; omega
  have dz2 : decide (b < 0) = false := by simp; omega
  by_cases d : a < c.cells
  · have hr : Hid (c.refAt 6 a b = 5 + c.muts + c.globs + c.muts * c.regs + 3 * a + 6 - 4) := by unfold Cfg.refAt Hid; rw [if_pos ⟨hok, h0, h1⟩]; simp [*]; try omega
    have d' : decide (a < c.cells) = true := by simpa using d
    have s_0 : IntKind.i64.wrap (5 + c.muts) = 5 + c.muts := IntWalk.i64_in _ (by omega)
    have s_1 : IntKind.i64.wrap (5 + c.muts + c.globs) = 5 + c.muts + c.globs := IntWalk.i64_in _ (by omega)
    have s_2 : IntKind.i64.wrap (c.muts * c.regs) = c.muts * c.regs := IntWalk.i64_in _ (by omega)
    have s_3 : IntKind.i64.wrap (5 + c.muts + c.globs + c.muts * c.regs) = 5 + c.muts + c.globs + c.muts * c.regs := IntWalk.i64_in _ (by omega)
    have s_4 : IntKind.i64.wrap (3 * a) = 3 * a := IntWalk.i64_in _ (by omega)
    have s_5 : IntKind.i64.wrap (5 + c.muts + c.globs + c.muts * c.regs + 3 * a) = 5 + c.muts + c.globs + c.muts * c.regs + 3 * a := IntWalk.i64_in _ (by omega)
    have s_6 : IntKind.i64.wrap (5 + c.muts + c.globs + c.muts * c.regs + 3 * a + 6) = 5 + c.muts + c.globs + c.muts * c.regs + 3 * a + 6 := IntWalk.i64_in _ (by omega)
    have s_7 : IntKind.i64.wrap (5 + c.muts + c.globs + c.muts * c.regs + 3 * a + 6 - 4) = 5 + c.muts + c.globs + c.muts * c.regs + 3 * a + 6 - 4 := IntWalk.i64_in _ (by omega)
    clear hok
    go_enter Tryd.func17, Tryd.ntmps17
    go_wp2_with fail
    refine (refright_any _ c).mono ?_
    rintro e w1 ⟨rfl, hb⟩
    rw [HOK.out]
    have HB : Hid (Below w.heap.size w w1) := HB0.out.trans (hb.mono (by simp; omega))
    have hb1 := (hb.block w.heap.size (by simp; omega)).trans (heap_new1 w c.obj (spotObj 6 a b))
    have hb2 := (hb.block (w.heap.size + 1) (by simp)).trans (heap_new2 w c.obj (spotObj 6 a b))
    obtain ⟨k0, k1, k2, k3⟩ := Cfg.cells_at hb1
    have s0 : w1.cell? ⟨w.heap.size + 1, 0, none⟩ = some (.int .i64 6) := cell_of_block hb2 0
    have s1 : w1.cell? ⟨w.heap.size + 1, 1, none⟩ = some (.int .i64 a) := cell_of_block hb2 1
    have s2 : w1.cell? ⟨w.heap.size + 1, 2, none⟩ = some (.int .i64 b) := cell_of_block hb2 2
    clear hb hb1 hb2
    go_wp2_with fail
    go_ret
    exact ⟨by rw [hr.out]; first | rfl | exact ret_int (by omega), HB.out⟩
  · have hr : Hid (c.refAt 6 a b = -1) := by unfold Cfg.refAt Hid; rw [if_pos ⟨hok, h0, h1⟩]; simp [*]; try omega
    have d' : decide (a < c.cells) = false := by simpa using d
    have s_0 : IntKind.i64.wrap (5 + c.muts) = 5 + c.muts := IntWalk.i64_in _ (by omega)
    have s_1 : IntKind.i64.wrap (5 + c.muts + c.globs) = 5 + c.muts + c.globs := IntWalk.i64_in _ (by omega)
    have s_2 : IntKind.i64.wrap (c.muts * c.regs) = c.muts * c.regs := IntWalk.i64_in _ (by omega)
    have s_3 : IntKind.i64.wrap (5 + c.muts + c.globs + c.muts * c.regs) = 5 + c.muts + c.globs + c.muts * c.regs := IntWalk.i64_in _ (by omega)
    clear hok
    go_enter Tryd.func17, Tryd.ntmps17
    go_wp2_with fail
    refine (refright_any _ c).mono ?_
    rintro e w1 ⟨rfl, hb⟩
    rw [HOK.out]
    have HB : Hid (Below w.heap.size w w1) := HB0.out.trans (hb.mono (by simp; omega))
    have hb1 := (hb.block w.heap.size (by simp; omega)).trans (heap_new1 w c.obj (spotObj 6 a b))
    have hb2 := (hb.block (w.heap.size + 1) (by simp)).trans (heap_new2 w c.obj (spotObj 6 a b))
    obtain ⟨k0, k1, k2, k3⟩ := Cfg.cells_at hb1
    have s0 : w1.cell? ⟨w.heap.size + 1, 0, none⟩ = some (.int .i64 6) := cell_of_block hb2 0
    have s1 : w1.cell? ⟨w.heap.size + 1, 1, none⟩ = some (.int .i64 a) := cell_of_block hb2 1
    have s2 : w1.cell? ⟨w.heap.size + 1, 2, none⟩ = some (.int .i64 b) := cell_of_block hb2 2
    clear hb hb1 hb2
    go_wp2_with fail
    go_ret
    exact ⟨by rw [hr.out]; first | rfl | exact ret_int (by omega), HB.out⟩

theorem refat_any (w : World) (c : Cfg) (k a b : Int) (hk : k = 1 ∨ k = 2 ∨ k = 3 ∨ k = 4 ∨ k = 5 ∨ k = 6) :
    Calls Tryd.prog 17 #[c.v, .agg #[.int .i64 k, .int .i64 a, .int .i64 b]] w fun e w' => e = .returned (.int .i64 (c.refAt k a b)) ∧ Below w.heap.size w w' := by
  by_cases h : c.ok = true ∧ 0 ≤ a ∧ 0 ≤ b
  · obtain ⟨h0, h1, h2⟩ := h
    rcases hk with rfl | rfl | rfl | rfl | rfl | rfl
    · exact refat_1 w c a b h0 h1 h2
    · exact refat_2 w c a b h0 h1 h2
    · exact refat_3 w c a b h0 h1 h2
    · exact refat_4 w c a b h0 h1 h2
    · exact refat_5 w c a b h0 h1 h2
    · exact refat_6 w c a b h0 h1 h2
  · have : c.refAt k a b = -1 := by unfold Cfg.refAt; rw [if_neg h]
    rw [this]
    exact refat_no w c k a b h

def Cfg.refRoot (c : Cfg) (j : Int) : Int := if 0 ≤ j ∧ j < c.roots then (if j = 0 then 0 else 4 + c.muts + j) else -1
end Go.Proofs.YtipoklnoknkfhaaDoor
namespace Go.Proofs.YtipoklnoknkfhaaDoor
open Go Go.RowKit
set_option linter.unusedSimpArgs false
set_option linter.unusedVariables false

/-! ### the plain law -/
theorem wrap64_id {x : Int} (h0 : -9223372036854775808 ≤ x) (h1 : x ≤ 9223372036854775807) : wrap64 x = x := by unfold wrap64; omega
theorem Cfg.begin_ (c : Cfg) (ok : c.ok = true) : c.g0 = 5 + c.muts ∧ c.r0 = 5 + c.muts + c.globs ∧ c.c0 = 5 + c.muts + c.globs + c.muts * c.regs := by
  obtain ⟨_, _⟩ := c.mr ok
  obtain ⟨_, _, _, _, _, _, _, _⟩ := c.ok_iff.1 ok
  have e0 : c.g0 = 5 + c.muts := wrap64_id (by omega) (by omega)
  have e1 : c.r0 = 5 + c.muts + c.globs := by unfold Cfg.r0; rw [e0]; exact wrap64_id (by omega) (by omega)
  refine ⟨e0, e1, ?_⟩
  unfold Cfg.c0
  rw [e1, wrap64_id (x := c.muts * c.regs) (by omega) (by omega)]
  exact wrap64_id (by omega) (by omega)
theorem Cfg.at_ok (c : Cfg) (ok : c.ok = true) (f i many apart : Int) (h0 : 0 ≤ f) (h1 : f ≤ 100000) (h2 : many ≤ 100000) (h3 : 0 ≤ apart) (h4 : apart ≤ 3) : c.at_ f i many apart = if 0 ≤ i ∧ i < many then f + i * apart else -1 := by
  unfold Cfg.at_
  by_cases h : 0 ≤ i ∧ i < many
  · rw [if_pos ⟨ok, h.1, h.2⟩, if_pos h]
    have := mul_bd (a := i) (b := apart) (x := 100000) (y := 3) h.1 (by omega) h3 h4
    rw [wrap64_id (x := i * apart) (by omega) (by omega)]
    exact wrap64_id (by omega) (by omega)
  · rw [if_neg (fun x => h x.2), if_neg h]
theorem Cfg.at_not (c : Cfg) (ok : ¬ c.ok = true) (f i many apart : Int) : c.at_ f i many apart = -1 := by unfold Cfg.at_; rw [if_neg (fun x => ok x.1)]
theorem in_same (c : Cfg) (i : Int) : c.at_ 5 i c.muts 1 = c.refAt 1 i 0 := by
  by_cases ok : c.ok = true
  · obtain ⟨_, _, _, _, _, _, _, _⟩ := c.ok_iff.1 ok
    rw [c.at_ok ok _ _ _ _ (by omega) (by omega) (by omega) (by omega) (by omega)]
    unfold Cfg.refAt
    by_cases h : 0 ≤ i ∧ i < c.muts
    · rw [if_pos h, if_pos ⟨ok, h.1, by omega⟩]; simp; omega
    · rw [if_neg h]; by_cases h0 : 0 ≤ i
      · rw [if_pos ⟨ok, h0, by omega⟩]; simp; omega
      · rw [if_neg (by omega)]
  · rw [c.at_not ok]; unfold Cfg.refAt; rw [if_neg (fun x => ok x.1)]
theorem glob_same (c : Cfg) (i : Int) : c.at_ c.g0 i c.globs 1 = c.refAt 2 i 0 := by
  by_cases ok : c.ok = true
  · obtain ⟨e0, e1, e2⟩ := c.begin_ ok
    obtain ⟨_, _, _, _, _, _, _, _⟩ := c.ok_iff.1 ok
    rw [e0, c.at_ok ok _ _ _ _ (by omega) (by omega) (by omega) (by omega) (by omega)]
    unfold Cfg.refAt
    by_cases h : 0 ≤ i ∧ i < c.globs
    · rw [if_pos h, if_pos ⟨ok, h.1, by omega⟩]; simp; omega
    · rw [if_neg h]; by_cases h0 : 0 ≤ i
      · rw [if_pos ⟨ok, h0, by omega⟩]; simp; omega
      · rw [if_neg (by omega)]
  · rw [c.at_not ok]; unfold Cfg.refAt; rw [if_neg (fun x => ok x.1)]
theorem Cfg.reg_ok (c : Cfg) (ok : c.ok = true) (i r : Int) : c.reg_ i r = if 0 ≤ i ∧ i < c.muts ∧ 0 ≤ r ∧ r < c.regs then 5 + c.muts + c.globs + i * c.regs + r else -1 := by
  obtain ⟨e0, e1, e2⟩ := c.begin_ ok
  obtain ⟨_, _, _, _, _, _, _, _⟩ := c.ok_iff.1 ok
  unfold Cfg.reg_
  by_cases h : 0 ≤ i ∧ i < c.muts
  · have := mul_bd (a := i) (b := c.regs) (x := 63) (y := 64) (by omega) (by omega) (by omega) (by omega)
    rw [if_pos h, e1, wrap64_id (x := i * c.regs) (by omega) (by omega), wrap64_id (x := 5 + c.muts + c.globs + i * c.regs) (by omega) (by omega)]
    rw [c.at_ok ok _ _ _ _ (by omega) (by omega) (by omega) (by omega) (by omega)]
    by_cases hr : 0 ≤ r ∧ r < c.regs
    · rw [if_pos hr, if_pos ⟨h.1, h.2, hr.1, hr.2⟩]; omega
    · rw [if_neg hr, if_neg (fun x => hr ⟨x.2.2.1, x.2.2.2⟩)]
  · rw [if_neg h, if_neg (fun x => h ⟨x.1, x.2.1⟩)]
theorem reg_same (c : Cfg) (i r : Int) : c.reg_ i r = c.refAt 3 i r := by
  by_cases ok : c.ok = true
  · rw [c.reg_ok ok]
    unfold Cfg.refAt
    simp only [show ¬ (3 : Int) = 1 by omega, show ¬ (3 : Int) = 2 by omega, if_false, if_true, ok, true_and]
    by_cases h : 0 ≤ i ∧ 0 ≤ r
    · by_cases h2 : i < c.muts ∧ r < c.regs
      · rw [if_pos (show 0 ≤ i ∧ i < c.muts ∧ 0 ≤ r ∧ r < c.regs by omega), if_pos h, if_pos h2]
      · rw [if_neg (show ¬ (0 ≤ i ∧ i < c.muts ∧ 0 ≤ r ∧ r < c.regs) by omega), if_pos h, if_neg h2]
    · rw [if_neg (show ¬ (0 ≤ i ∧ i < c.muts ∧ 0 ≤ r ∧ r < c.regs) by omega), if_neg h]
  · have h1 : c.reg_ i r = -1 := by
      unfold Cfg.reg_
      split
      · exact c.at_not ok _ _ _ _
      · rfl
    rw [h1]
    unfold Cfg.refAt
    rw [if_neg (fun x => ok x.1)]
theorem cell_same (c : Cfg) (i d : Int) (hd : 0 ≤ d) (hd2 : d ≤ 2) : c.at_ (wrap64 (c.c0 + d)) i c.cells 3 = c.refAt (4 + d) i 0 := by
  by_cases ok : c.ok = true
  · obtain ⟨e0, e1, e2⟩ := c.begin_ ok
    obtain ⟨_, _⟩ := c.mr ok
    obtain ⟨_, _, _, _, _, _, _, _⟩ := c.ok_iff.1 ok
    rw [e2, wrap64_id (by omega) (by omega), c.at_ok ok _ _ _ _ (by omega) (by omega) (by omega) (by omega) (by omega)]
    unfold Cfg.refAt
    rw [if_neg (show ¬ (4 + d = 1) by omega), if_neg (show ¬ (4 + d = 2) by omega), if_neg (show ¬ (4 + d = 3) by omega)]
    by_cases h : 0 ≤ i ∧ i < c.cells
    · rw [if_pos h, if_pos ⟨ok, h.1, by omega⟩, if_pos h.2]; omega
    · rw [if_neg h]; by_cases h0 : 0 ≤ i
      · rw [if_pos ⟨ok, h0, by omega⟩, if_neg (by omega)]
      · rw [if_neg (by omega)]
  · rw [c.at_not ok]; unfold Cfg.refAt; rw [if_neg (fun x => ok x.1)]
theorem car_same (c : Cfg) (i : Int) : c.at_ c.c0 i c.cells 3 = c.refAt 4 i 0 := by
  have h := cell_same c i 0 (by omega) (by omega)
  have e : wrap64 (c.c0 + 0) = c.c0 := by
    unfold Cfg.c0
    rw [Int.add_zero]
    generalize c.r0 + wrap64 (c.muts * c.regs) = z
    unfold wrap64
    omega
  rw [e] at h
  exact h
theorem root_same (c : Cfg) (j : Int) (hj0 : -9223372036854775808 ≤ j) (hj1 : j ≤ 9223372036854775807) : c.root_ j = c.refRoot j := by
  by_cases ok : c.ok = true
  · obtain ⟨e0, e1, e2⟩ := c.begin_ ok
    obtain ⟨_, _⟩ := c.mr ok
    obtain ⟨_, _, _, _, _, _, _, _⟩ := c.ok_iff.1 ok
    have hrt : c.roots = 1 + c.globs + c.muts * c.regs := by unfold Cfg.roots; rw [if_pos ok]
    unfold Cfg.root_ Cfg.refRoot
    rw [hrt]
    by_cases hj : j = 0
    · subst hj
      rw [if_neg (fun x => x.2 rfl), c.at_ok ok _ _ _ _ (by omega) (by omega) (by omega) (by omega) (by omega)]
      rw [if_pos (by omega), if_pos (by omega), if_pos rfl]; rfl
    · rw [if_pos ⟨ok, hj⟩, e0, wrap64_id (x := c.muts * c.regs) (by omega) (by omega), wrap64_id (x := c.globs + c.muts * c.regs) (by omega) (by omega)]
      rw [c.at_ok ok _ _ _ _ (by omega) (by omega) (by omega) (by omega) (by omega)]
      by_cases hb : j = -9223372036854775808
      · have hw : wrap64 (j - 1) = 9223372036854775807 := by subst hb; decide +kernel
        rw [hw, if_neg (by omega), if_neg (by omega)]
      · rw [wrap64_id (x := j - 1) (by omega) (by omega)]
        by_cases h : 0 ≤ j ∧ j < 1 + c.globs + c.muts * c.regs
        · rw [if_pos (by omega), if_pos h, if_neg hj]; omega
        · rw [if_neg (by omega), if_neg h]
  · have hrt : c.roots = 0 := by unfold Cfg.roots; rw [if_neg ok]
    unfold Cfg.root_ Cfg.refRoot
    rw [if_neg (fun x => ok x.1), c.at_not ok, hrt, if_neg (by omega)]

/-! ### awake -/
def Cfg.one : Cfg := ⟨2, 1, 1, 0⟩
/-! ### PlaceTells -/
theorem cfg_same (w : World) (c : Cfg) : (binOp .neq 23 c.v c.v).run Tryd.prog w = .ok (.bool false) w := by
  simp [go_sem]
end Go.Proofs.YtipoklnoknkfhaaDoor
