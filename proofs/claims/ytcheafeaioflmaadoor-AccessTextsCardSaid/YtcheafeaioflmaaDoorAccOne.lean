/- What the document tells of an access. -/
import Derived.Test.YtcheafeaioflmaaDoorAccText
namespace Go.Proofs.YtcheafeaioflmaaDoor
open Go Go.RowKit
set_option linter.unusedSimpArgs false
set_option linter.unusedVariables false

def oneMap : Cfg := ⟨2, 1, 1, 0⟩
def oneAcc : Acc := ⟨1, 0, 0, 0, 1⟩
theorem one_name : oneMap.name 0 = ⟨#[102, 114, 101, 101]⟩ := by
  rw [oneMap.name_in 0 (by decide) (by decide)]
  rfl
theorem one_right : oneAcc.right oneMap := by
  refine ⟨?_, .inl ⟨rfl, rfl, rfl⟩⟩
  show oneMap.name 0 ≠ _
  rw [one_name]
  intro e
  have := congrArg ByteArray.size e
  revert this
  decide
theorem one_w : wtext 1 = ⟨#[35, 48]⟩ := bytes_ext (by
  rw [wtext_bytes]
  unfold wbytes
  rw [show ((1 : Int) / 2).toNat = 0 from rfl, dd_small (by omega)]
  rfl)
theorem one_text : oneAcc.text oneMap = ⟨#[108, 111, 97, 100, 32, 102, 114, 101, 101, 32, 119, 97, 115, 32, 35, 48]⟩ := by
  unfold Acc.text
  rw [if_pos one_right]
  unfold Acc.texts
  rw [show oneMap.name oneAcc.at_ = ⟨#[102, 114, 101, 101]⟩ from one_name, show wtext oneAcc.old = ⟨#[35, 48]⟩ from one_w]
  rfl
theorem one_fits : oneAcc.Fits := ⟨by decide, by decide, by decide, by decide, by decide⟩
set_option maxHeartbeats 2000000 in
theorem acc_awake (w : World) (ht : Tens w) : Calls Tryd.prog 15 #[] w fun e w' => e = .returned (.bool true) ∧ Below w.heap.size w w' := by
  have HT := Lib.hid ht
  clear ht
  have HA : Hid (∀ W, Tens W → Calls Tryd.prog 17 #[oneMap.v, oneAcc.v] W fun e w' => e = .returned (.string ⟨#[108, 111, 97, 100, 32, 102, 114, 101, 101, 32, 119, 97, 115, 32, 35, 48]⟩) ∧ Below W.heap.size W w') := fun W hW => by
    have := atext_1 W oneMap oneAcc one_fits hW one_right rfl
    rw [one_text] at this
    exact this
  go_enter Tryd.func15, Tryd.ntmps15
  go_wp2_with fail
  refine (HA.out _ (HT.out.below (Nat.le_refl _) (by repeat (first | exact Below.refl _ _ | refine Below.alloc ?_ (by simp) _ | refine Below.setCell ?_ (by simp) _)))).mono ?_
  rintro e w2 ⟨rfl, hb⟩
  have HB := Lib.hid hb
  clear hb
  go_wp2_with fail
  go_ret
  refine ⟨rfl, ?_⟩
  refine Below.trans ?_ (HB.out.mono (by simp))
  repeat (first | exact Below.refl _ _ | refine Below.alloc ?_ (by simp) _ | refine Below.setCell ?_ (by simp) _)
end Go.Proofs.YtcheafeaioflmaaDoor
