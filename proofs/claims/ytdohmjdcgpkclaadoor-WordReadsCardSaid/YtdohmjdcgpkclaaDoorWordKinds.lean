/- The walks of the laws WordKinds and WordTotal: awake, number. -/
import Derived.Test.YtdohmjdcgpkclaaDoorWordLib
namespace Go.Proofs.YtdohmjdcgpkclaaDoor
open Go Go.RowKit
set_option linter.unusedSimpArgs false
set_option linter.unusedVariables false

theorem word_awake (w : World) : Calls Tryd.prog 15 #[] w fun e w' => e = .returned (.bool true) ∧ w' = w := by
  go_enter Tryd.func15, Tryd.ntmps15
  have hc := cell_any w 3 (by decide) (by decide)
  rw [if_pos (by decide)] at hc
  have ha := atom_any w 3 (by decide) (by decide)
  rw [if_neg (by decide)] at ha
  have HC := Lib.hid hc
  have HA := Lib.hid ha
  clear hc ha
  go_wp2_with fail
  refine HC.out.mono ?_
  rintro e w' ⟨rfl, rfl⟩
  go_wp2_with fail
  refine HA.out.mono ?_
  rintro e w' ⟨rfl, rfl⟩
  go_wp2_with fail
  refine (text7 _).mono ?_
  rintro e w' ⟨rfl, rfl⟩
  go_wp2_with fail
  refine (text6 _).mono ?_
  rintro e w' ⟨rfl, rfl⟩
  go_wp2_with fail
  go_ret
  exact ⟨by rfl, rfl⟩
end Go.Proofs.YtdohmjdcgpkclaaDoor
