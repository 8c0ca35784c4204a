/- The walk of the law WordTexts. -/
import Derived.Test.YtdohmjdcgpkclaaDoorWordParse
namespace Go.Proofs.YtdohmjdcgpkclaaDoor
open Go Go.RowKit
set_option linter.unusedSimpArgs false
set_option linter.unusedVariables false

theorem wtext_size (a : Int) (h0 : 0 ≤ a) (h1 : a < 18446744073709551616) : (wtext a).size ≤ 21 := by
  obtain ⟨hd1, hd2⟩ := dec_size (a / 2).toNat (by omega)
  unfold wtext
  split
  · rw [ByteArray.size_append]
    have : (wpre a).size ≤ 1 := by unfold wpre; split <;> (try split) <;> decide
    omega
  · omega
set_option maxHeartbeats 2000000 in
theorem wtexts_walk (w : World) (a b : Int) (a0 : 0 ≤ a) (a1 : a < 18446744073709551616) (b0 : 0 ≤ b) (b1 : b < 18446744073709551616) (ht : Tens w) (he : Errs w) :
    Calls Tryd.prog 3 #[.int .u64 a, .int .u64 b] w fun e w' => e = .returned (.bool true) ∧ Below w.heap.size w w' := by
  have HT : Hid (Tens w) := ht
  have HE : Hid (Errs w) := he
  have HA := Lib.hid (fun W (h : Tens W) => text_any W a a0 a1 h)
  have HBT := Lib.hid (fun W (h : Tens W) => text_any W b b0 b1 h)
  have HR := Lib.hid (fun W => reftext_any W a a0 a1)
  have hs := wtext_size a a0 a1
  have hv : wval (wtext a) = a ∧ werr (wtext a) = 0 := by unfold wval werr; rw [wread_w a a0 a1]; exact ⟨rfl, rfl⟩
  have HP := Lib.hid (fun W (h : Tens W) (h2 : Errs W) => wparse_any W (wtext a) (by omega) h h2)
  rw [hv.1, hv.2] at HP
  have hab : ((wtext a).toList == (wtext b).toList) = (a == b) := by
    by_cases h : a = b
    · rw [str_eqT (by rw [h])]
      simp [h]
    · rw [str_neT (fun e => h (wtext_inj ⟨a0, a1⟩ ⟨b0, b1⟩ e))]
      simp [h]
  have saa : ((wtext a).toList == (wtext a).toList) = true := by simp
  have HAB := Lib.hid hab
  clear ht he hv hab
  generalize wtext a = s at *
  generalize wtext b = t at *
  cases hq : (a == b)
  all_goals
    have st := HAB.out
    rw [hq] at st
    go_enter Tryd.func3, Tryd.ntmps3
    go_wp2_with fail
    refine (word_awake _).mono ?_
    rintro e w' ⟨rfl, rfl⟩
    go_wp2_with fail
    refine (HA.out _ HT.out).mono ?_
    rintro e w1 ⟨rfl, hb⟩
    have HB1 := Lib.hid hb
    clear hb
    go_wp2_with fail
    refine (HP.out _ (HT.out.below (Nat.le_refl _) HB1.out) (HE.out.below (Nat.le_refl _) HB1.out)).mono ?_
    rintro e w2 ⟨rfl, hb⟩
    have HB2 := Lib.hid (HB1.out.trans (hb.mono HB1.out.size))
    clear hb
    go_wp2_with fail
    refine (HR.out _).mono ?_
    rintro e w3 ⟨rfl, hb⟩
    have HB3 := Lib.hid (HB2.out.trans (hb.mono HB2.out.size))
    clear hb
    go_wp2_with fail
    refine (HBT.out _ (HT.out.below (Nat.le_refl _) HB3.out)).mono ?_
    rintro e w4 ⟨rfl, hb⟩
    have HB4 := Lib.hid (HB3.out.trans (hb.mono HB3.out.size))
    clear hb
    go_wp2_with fail
    go_ret
    exact ⟨rfl, HB4.out⟩
end Go.Proofs.YtdohmjdcgpkclaaDoor
