/- The document's awake of layer 2. -/
import Derived.Test.YtnbigldfklehgabDoorColour
namespace Go.Proofs.YtnbigldfklehgabDoor
open Go Go.RowKit
set_option linter.unusedSimpArgs false
set_option linter.unusedVariables false

set_option maxHeartbeats 1000000 in
theorem colour_awake (w : World) (hn : Names w) : Calls Tryd.prog 4 #[] w fun e w' => e = .returned (.bool true) ∧ Below w.heap.size w w' := by
  have HN := Lib.hid hn
  clear hn
  go_enter Tryd.func4, Tryd.ntmps4
  go_wp2_with fail
  have hw : Words (w.alloc (.cells #[.int .u64 0, .int .u64 2] 33)) (w.alloc (.cells #[.int .u64 0, .int .u64 2] 33)).heap.size (some ⟨w.heap.size, 0, none⟩) [0, 2] := Ints.of_block (heap_alloc_new w _) rfl (by decide)
  have hb0 : Below w.heap.size w (w.alloc (.cells #[.int .u64 0, .int .u64 2] 33)) := (Below.refl _ _).alloc (Nat.le_refl _) _
  have HB0 := Lib.hid hb0
  refine (letters_any _ _ 2 [0, 2] hw (by simp) (by decide) (HN.out.below (Nat.le_refl _) hb0)).mono ?_
  rintro e w2 ⟨rfl, hb⟩
  rw [show letters [0, 2] = ⟨#[119, 98]⟩ by decide]
  have HB := Lib.hid (HB0.out.trans (hb.mono HB0.out.size))
  clear hb hw hb0
  go_wp2_with fail
  go_ret
  exact ⟨by rfl, HB.out⟩
end Go.Proofs.YtnbigldfklehgabDoor
