/- The walk of the law WordReads. -/
import Derived.Test.YtdohmjdcgpkclaaDoorRefParse
namespace Go.Proofs.YtdohmjdcgpkclaaDoor
open Go Go.RowKit
set_option linter.unusedSimpArgs false
set_option linter.unusedVariables false

theorem wreads_walk (w : World) (s : ByteArray) (ht : Tens w) (he : Errs w) :
    Calls Tryd.prog 4 #[.string s] w fun e w' => e = .returned (.bool true) ∧ Below w.heap.size w w' := by
  have HT : Hid (Tens w) := ht
  have HE : Hid (Errs w) := he
  clear ht he
  by_cases h60 : 60 < s.size
  · have d60 : decide ((60 : Int) < (s.size : Int)) = true := by simp; omega
    clear h60
    go_enter Tryd.func4, Tryd.ntmps4
    go_wp2_with fail
    refine (word_awake _).mono ?_
    rintro e w' ⟨rfl, rfl⟩
    go_wp2_with fail
    go_ret
    exact ⟨rfl, Below.refl _ _⟩
  · have d60 : decide ((60 : Int) < (s.size : Int)) = false := by simp; omega
    have HP := Lib.hid (fun W (h : Tens W) (h2 : Errs W) => wparse_any W s (by omega) h h2)
    have HR := Lib.hid (fun W => rparse_any W s (by omega))
    clear h60
    generalize wval s = v at *
    generalize werr s = x at *
    go_enter Tryd.func4, Tryd.ntmps4
    go_wp2_with fail
    refine (word_awake _).mono ?_
    rintro e w' ⟨rfl, rfl⟩
    go_wp2_with fail
    refine (HP.out _ HT.out HE.out).mono ?_
    rintro e w1 ⟨rfl, hb⟩
    have HB1 := Lib.hid hb
    clear hb
    go_wp2_with fail
    refine (HR.out _).mono ?_
    rintro e w2 ⟨rfl, hb⟩
    have HB2 := Lib.hid (HB1.out.trans (hb.mono HB1.out.size))
    clear hb
    go_wp2_with fail
    go_ret
    exact ⟨rfl, HB2.out⟩
end Go.Proofs.YtdohmjdcgpkclaaDoor
