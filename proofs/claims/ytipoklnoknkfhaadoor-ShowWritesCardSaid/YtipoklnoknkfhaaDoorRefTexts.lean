/- The reference's test of two lists of texts: the same lists are the same. -/
import Derived.Test.YtipoklnoknkfhaaDoorStrEq
import Derived.Test.YtipoklnoknkfhaaDoorJoin
namespace Go.Proofs.YtipoklnoknkfhaaDoor
open Go Go.RowKit
set_option linter.unusedSimpArgs false
set_option linter.unusedVariables false

set_option maxHeartbeats 4000000 in
theorem reftexts_same (w : World) (A A' : Option Addr) (c c' : Nat) (ss : List ByteArray) (hx : Strs w w.heap.size A ss) (hy : Strs w w.heap.size A' ss) (hm : ss.length ≤ 1000) :
    Calls Tryd.prog 18 #[.slice A ss.length c, .slice A' ss.length c'] w fun e w' => e = .returned (.bool true) ∧ Below w.heap.size w w' := by
  have HX := Lib.hid hx
  have HY := Lib.hid hy
  clear hx hy
  go_enter Tryd.func18, Tryd.ntmps18
  go_wp2_with fail
  go_loopw [5] (fun i wr => ∃ k : Nat, k ≤ ss.length ∧ i = .int .i64 k ∧ Keep (fun _ => False) w wr) (fun i _ => ss.length - (intOf i).toNat)
  case atStart => exact ⟨0, Nat.zero_le _, rfl, Keep.refl _ _⟩
  case round =>
    obtain ⟨k, hk, rfl, hkp⟩ := hrel
    have hbl := Lib.hid (hkp.below (Nat.le_refl _) (fun k h => h.elim))
    have HK := Lib.hid hkp
    clear hkp
    by_cases hlt : k < ss.length
    · obtain ⟨ad, rfl, hB, hcx⟩ := (HX.out.below hbl.out).at_ (by omega)
      obtain ⟨ad', rfl, hB', hcy⟩ := (HY.out.below hbl.out).at_ (by omega)
      have i1 : ((k : Nat) : Int) < ((ss.length : Nat) : Int) := by omega
      obtain ⟨t, ht⟩ : ∃ t, ss[k]? = some t := ⟨ss[k], List.getElem?_eq_getElem hlt⟩
      have x1 := hcx k t ht
      have y1 := hcy k t ht
      have e1 := strT (rfl : t = t)
      clear hcx hcy ht
      go_wp2_with fail
      go_quiet (fail)
      go_wp2_with fail
      go_roundw
      case rel => exact ⟨k + 1, by omega, by go_num, HK.out.drewN _⟩
      case measure => simp [intOf]; omega
    · go_wp2_with fail
      go_ret
      exact ⟨rfl, hbl.out⟩
end Go.Proofs.YtipoklnoknkfhaaDoor
