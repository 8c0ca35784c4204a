/- The bound of a cycle's rounds. -/
import Derived.Test.YtcheafeaioflmaaDoorPlace
import Derived.Test.YtcheafeaioflmaaDoorCfgPure
namespace Go.Proofs.YtcheafeaioflmaaDoor
open Go Go.RowKit
set_option linter.unusedSimpArgs false
set_option linter.unusedVariables false

set_option maxHeartbeats 4000000 in
set_option maxRecDepth 100000 in
theorem cycrounds_any (w : World) (c : Cfg) :
    Calls Tryd.prog 34 #[c.v] w fun e w' => e = .returned (.int .i64 c.cyc) ∧ Below w.heap.size w w' := by
  have HB0 : Hid (Below w.heap.size w (w.alloc c.obj)) := (Below.refl _ _).alloc (Nat.le_refl _) _
  have HX0 := Lib.hid (heap_alloc_new w c.obj)
  obtain ⟨k0, k1, k2, k3⟩ := Cfg.cells_at HX0.out
  have HCK := Lib.hid (check_any (w.alloc c.obj) c)
  by_cases ok : c.ok = true
  · have HE : Hid (c.err = 0) := by unfold Cfg.err Hid; rw [if_pos ok]
    have HR : Hid (c.cyc = 32 * (c.cells + c.muts + 1) * (c.cells + c.roots + 32 * c.muts)) := by unfold Cfg.cyc Hid; rw [if_pos ok]
    have ho := c.ok_iff.1 ok
    have hr := c.roots_in ok
    have hb := cyc_bd c ok
    have s1 : IntKind.i64.wrap (c.cells + c.muts) = c.cells + c.muts := IntWalk.i64_in _ (by omega)
    have s2 : IntKind.i64.wrap (c.cells + c.muts + 1) = c.cells + c.muts + 1 := IntWalk.i64_in _ (by omega)
    have s3 : IntKind.i64.wrap (32 * (c.cells + c.muts + 1)) = 32 * (c.cells + c.muts + 1) := IntWalk.i64_in _ (by omega)
    have s4 : IntKind.i64.wrap (c.cells + c.roots) = c.cells + c.roots := IntWalk.i64_in _ (by omega)
    have s5 : IntKind.i64.wrap (32 * c.muts) = 32 * c.muts := IntWalk.i64_in _ (by omega)
    have s6 : IntKind.i64.wrap (c.cells + c.roots + 32 * c.muts) = c.cells + c.roots + 32 * c.muts := IntWalk.i64_in _ (by omega)
    have s7 : IntKind.i64.wrap (32 * (c.cells + c.muts + 1) * (c.cells + c.roots + 32 * c.muts)) = 32 * (c.cells + c.muts + 1) * (c.cells + c.roots + 32 * c.muts) := IntWalk.i64_in _ (by omega)
    clear ok ho hr hb
    go_enter Tryd.func34, Tryd.ntmps34
    go_wp2_with fail
    refine HCK.out.mono ?_
    rintro e w1 ⟨rfl, hb⟩
    rw [HE.out]
    have HB1 : Hid (Below w.heap.size w w1) := HB0.out.trans (hb.mono HB0.out.size)
    have HX1 := Lib.hid ((hb.block w.heap.size (by simp)).trans HX0.out)
    clear hb k0 k1 k2 k3
    obtain ⟨k0, k1, k2, k3⟩ := Cfg.cells_at HX1.out
    have hs1 := block_lt HX1.out
    have HALL : Hid (∀ W, Below w1.heap.size w1 W → W.cell? ⟨w.heap.size, 0, none⟩ = some (.int .i64 c.cells) ∧ W.cell? ⟨w.heap.size, 1, none⟩ = some (.int .i64 c.muts) ∧ W.cell? ⟨w.heap.size, 2, none⟩ = some (.int .i64 c.regs) ∧ W.cell? ⟨w.heap.size, 3, none⟩ = some (.int .i64 c.globs) ∧ Below w1.heap.size w1 W) := fun W hB => by
      obtain ⟨f0, f1, f2, f3⟩ := Cfg.cells_at ((hB.block _ (block_lt HX1.out)).trans HX1.out)
      exact ⟨f0, f1, f2, f3, hB⟩
    go_wp2_with fail
    go_region_held3 (fun W => W.cell? ⟨w.heap.size, 0, none⟩ = some (.int .i64 c.cells) ∧ W.cell? ⟨w.heap.size, 1, none⟩ = some (.int .i64 c.muts) ∧ W.cell? ⟨w.heap.size, 2, none⟩ = some (.int .i64 c.regs) ∧ W.cell? ⟨w.heap.size, 3, none⟩ = some (.int .i64 c.globs) ∧ Below w1.heap.size w1 W)
      (first | exact HALL.out _ (Below.refl _ _) | exact HALL.out _ (Below.refl _ _).drew | (go_split_ands; exact HALL.out _ (Below.trans (by assumption) (hb2.mono (Below.size (by assumption))))) | fail)
      (first | (go_at_call_of 30 (Value.int IntKind.i64 c.cells); refine (roots_any _ c).mono ?_; rintro e wq ⟨rfl, hb2⟩) | fail)
    all_goals
     go_wp2_with fail
     go_ret
     go_split_ands
     exact ⟨by rw [HR.out]; rfl, HB1.out.trans (Below.mono (by assumption) HB1.out.size)⟩
  · have HE : Hid (c.err = 2) := by unfold Cfg.err Hid; rw [if_neg ok]
    have HR : Hid (c.cyc = 0) := by unfold Cfg.cyc Hid; rw [if_neg ok]
    clear ok
    go_enter Tryd.func34, Tryd.ntmps34
    go_wp2_with fail
    refine HCK.out.mono ?_
    rintro e w1 ⟨rfl, hb⟩
    rw [HE.out]
    have HB1 : Hid (Below w.heap.size w w1) := HB0.out.trans (hb.mono HB0.out.size)
    clear hb k0 k1 k2 k3
    go_wp2_with fail
    go_ret
    exact ⟨by rw [HR.out]; rfl, HB1.out⟩
end Go.Proofs.YtcheafeaioflmaaDoor
