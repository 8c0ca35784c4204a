/- The laws of arenas: what they all begin with. -/
import Derived.Test.YtnbigldfklehgabArena
namespace Go.Proofs.Ytnbigldfklehgab
open Go Go.RowKit
set_option linter.unusedSimpArgs false
set_option linter.unusedVariables false

theorem new_one (w : World) (x : Int) :
    Calls Try.prog 15 #[.slice (some ⟨w.heap.size, 0, none⟩) 1 1] (w.alloc (.cells #[.int .u64 x] 45)) fun e w' => ∃ b g, e = .returned (.pointer (some ⟨b,0,none⟩)) ∧ IsArena w' b g [x] ∧ w.heap.size ≤ b ∧ w.heap.size ≤ g ∧ Below w.heap.size w w' := by
  have h := new_any (w.alloc (.cells #[.int .u64 x] 45)) (some ⟨w.heap.size, 0, none⟩) 1 [x] ⟨by simp [maxLen], fun _ => ⟨_, rfl, by simp, fun j hj => by
    have : j = 0 := by simpa using hj
    subst this
    show (w.alloc _).cell? ⟨w.heap.size, 0, none⟩ = _
    rw [cell_of_block (heap_alloc_new w _)]
    rfl⟩⟩ (by simp)
  refine h.mono fun e w' hh => ?_
  obtain ⟨b, g, he, ha, hb, hg, hB⟩ := hh
  simp at hb hg
  exact ⟨b, g, he, ha, by omega, by omega, ((Below.refl _ _).alloc (Nat.le_refl _) _).trans (hB.mono (by simp))⟩

theorem wrap_back (x y : Int) (h0 : 0 ≤ x) (h1 : x < 18446744073709551616) : IntKind.u64.wrap (IntKind.u64.wrap (x + y) - y) = x := by
  simp only [IntKind.wrap_u64]
  omega

theorem arena_awake (w : World) : Calls Try.prog 14 #[] w fun e w' => e = .returned (.bool true) ∧ Below w.heap.size w w' := by
  have e1 : ld [5] 0 = 5 := by decide
  have e2 : ld [7] 0 = 7 := by decide
  go_enter Try.func14, Try.ntmps14
  go_wp2_with fail
  refine (new_one w 5).mono ?_
  rintro e w1 ⟨b, g, rfl, ha, hb, hg, hB⟩
  have HA := Lib.hid ha
  have HB := Lib.hid hB
  clear ha hB
  go_wp2_with fail
  refine (add_any _ _ _ _ _ _ HA.out (fun _ _ => by decide)).mono ?_
  rintro e w2 ⟨rfl, ha2, hk2⟩
  rw [show st [5] 0 (IntKind.u64.wrap (ld [5] 0 + 2)) = [7] by decide] at ha2
  have HA2 := Lib.hid ha2
  have HK2 := Lib.hid hk2
  clear ha2 hk2
  go_wp2_with fail
  refine (load_any _ _ _ _ _ HA2.out).mono ?_
  rintro e w3 ⟨rfl, rfl⟩
  go_wp2_with fail
  go_ret
  exact ⟨rfl, HB.out.trans (HK2.out.below HB.out.size (fun k hk => by subst hk; exact hg))⟩

end Go.Proofs.Ytnbigldfklehgab
