/- The contracts of the reference on configurations: Right, Roots, Words. -/
import Derived.Test.YtdohmjdcgpkclaaDoorPlace
namespace Go.Proofs.YtdohmjdcgpkclaaDoor
open Go Go.RowKit
set_option linter.unusedSimpArgs false
set_option linter.unusedVariables false

theorem refright_any (w : World) (c : Cfg) :
    Calls Tryd.prog 92 #[c.v] w fun e w' => e = .returned (.bool c.ok) ∧ Below w.heap.size w w' := by
  obtain ⟨k0, k1, k2, k3⟩ := Cfg.cells_at (heap_alloc_new w c.obj)
  have HB0 : Hid (Below w.heap.size w (w.alloc c.obj)) := (Below.refl _ _).alloc (Nat.le_refl _) _
  have hok : c.ok = (decide (1 < c.cells) && decide (c.cells < 4097) && decide (0 < c.muts) && decide (c.muts < 64) && decide (0 < c.regs) && decide (c.regs < 65) && decide (-1 < c.globs) && decide (c.globs < 65)) := by
    rw [Bool.eq_iff_iff, c.ok_iff]
    simp only [Bool.and_eq_true, decide_eq_true_eq]
    omega
  generalize c.ok = ok at hok
  generalize g1 : decide (1 < c.cells) = b1 at hok
  generalize g2 : decide (c.cells < 4097) = b2 at hok
  generalize g3 : decide (0 < c.muts) = b3 at hok
  generalize g4 : decide (c.muts < 64) = b4 at hok
  generalize g5 : decide (0 < c.regs) = b5 at hok
  generalize g6 : decide (c.regs < 65) = b6 at hok
  generalize g7 : decide (-1 < c.globs) = b7 at hok
  generalize g8 : decide (c.globs < 65) = b8 at hok
  have HOK := Lib.hid hok
  clear hok
  cases b1
  · go_enter Tryd.func92, Tryd.ntmps92
    go_wp2
    go_ret
    exact ⟨by rw [HOK.out]; rfl, HB0.out⟩
  cases b2
  · go_enter Tryd.func92, Tryd.ntmps92
    go_wp2
    go_ret
    exact ⟨by rw [HOK.out]; rfl, HB0.out⟩
  cases b3
  · go_enter Tryd.func92, Tryd.ntmps92
    go_wp2
    go_ret
    exact ⟨by rw [HOK.out]; rfl, HB0.out⟩
  cases b4
  · go_enter Tryd.func92, Tryd.ntmps92
    go_wp2
    go_ret
    exact ⟨by rw [HOK.out]; rfl, HB0.out⟩
  cases b5
  · go_enter Tryd.func92, Tryd.ntmps92
    go_wp2
    go_ret
    exact ⟨by rw [HOK.out]; rfl, HB0.out⟩
  cases b6
  · go_enter Tryd.func92, Tryd.ntmps92
    go_wp2
    go_ret
    exact ⟨by rw [HOK.out]; rfl, HB0.out⟩
  cases b7
  · go_enter Tryd.func92, Tryd.ntmps92
    go_wp2
    go_ret
    exact ⟨by rw [HOK.out]; rfl, HB0.out⟩
  cases b8
  · go_enter Tryd.func92, Tryd.ntmps92
    go_wp2
    go_ret
    exact ⟨by rw [HOK.out]; rfl, HB0.out⟩
  · go_enter Tryd.func92, Tryd.ntmps92
    go_wp2
    go_ret
    exact ⟨by rw [HOK.out]; rfl, HB0.out⟩

end Go.Proofs.YtdohmjdcgpkclaaDoor
