/- access.Text at any access. -/
import Derived.Test.YtcheafeaioflmaaDoorAccText
import Derived.Test.YtcheafeaioflmaaDoorAccText2
import Derived.Test.YtcheafeaioflmaaDoorAccText3
namespace Go.Proofs.YtcheafeaioflmaaDoor
open Go Go.RowKit
set_option linter.unusedSimpArgs false
set_option linter.unusedVariables false

set_option maxHeartbeats 4000000 in
set_option maxRecDepth 100000 in
theorem atext_no (w : World) (c : Cfg) (a : Acc) (ht : Tens w) (hr : ¬ a.right c) :
    Calls Tryd.prog 17 #[c.v, a.v] w fun e w' => e = .returned (.string (a.text c)) ∧ Below w.heap.size w w' := by
  have HB0 : Hid (Below w.heap.size w ((w.alloc c.mobj).alloc a.obj)) := ((Below.refl _ _).alloc (Nat.le_refl _) _).alloc (by simp) _
  obtain ⟨g0, g1⟩ := two_new w c.mobj a.obj
  have HR : Hid (decide (a.right c) = false) := decide_eq_false hr
  have HRT := Lib.hid (aright_any ((w.alloc c.mobj).alloc a.obj) c a (ht.below (Nat.le_refl _) HB0.out))
  rw [HR.out] at HRT
  have HTX := Lib.hid (acc_text_not hr)
  obtain ⟨c0, c1, c2, c3⟩ := Cfg.mcells_at g0
  obtain ⟨x0, x1, x2, x3, x4, _⟩ := acc_cells g1
  clear hr ht g0 g1
  go_enter Tryd.func17, Tryd.ntmps17
  go_wp2_with fail
  refine HRT.out.mono ?_
  clear HRT
  rintro e w1 ⟨rfl, hb⟩
  have HB1 : Hid (Below w.heap.size w w1) := HB0.out.trans (hb.mono HB0.out.size)
  clear c0 c1 c2 c3 x0 x1 x2 x3 x4 hb
  go_wp2_with fail
  go_ret
  exact ⟨by rw [HTX.out]; rfl, HB1.out⟩
theorem atext_any (w : World) (c : Cfg) (a : Acc) (hf : a.Fits) (ht : Tens w) :
    Calls Tryd.prog 17 #[c.v, a.v] w fun e w' => e = .returned (.string (a.text c)) ∧ Below w.heap.size w w' := by
  by_cases hr : a.right c
  · have hk := acc_kind hr
    by_cases h1 : a.kind = 1
    · exact atext_1 w c a hf ht hr h1
    by_cases h2 : a.kind = 2
    · exact atext_2 w c a hf ht hr h2
    by_cases h3 : a.kind = 3
    · exact atext_3 w c a hf ht hr h3
    exact atext_4 w c a hf ht hr (by omega)
  · exact atext_no w c a ht hr
end Go.Proofs.YtcheafeaioflmaaDoor
