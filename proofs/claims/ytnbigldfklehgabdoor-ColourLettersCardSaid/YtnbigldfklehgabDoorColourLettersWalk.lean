/- The walk of the law ColourLetters. -/
import Derived.Test.YtnbigldfklehgabDoorColourLetters
namespace Go.Proofs.YtnbigldfklehgabDoor
open Go Go.RowKit
set_option linter.unusedSimpArgs false
set_option linter.unusedVariables false

set_option maxHeartbeats 8000000 in
set_option maxRecDepth 100000 in
theorem lettersLaw_walk (w : World) (A : Option Addr) (c : Nat) (xs : List Int) (h : Words w w.heap.size A xs) (hx : ∀ x ∈ xs, 0 ≤ x ∧ x < 18446744073709551616) (hn : Names w) :
    Calls Tryd.prog 3 #[.slice A xs.length c] w fun e w' => e = .returned (.bool true) ∧ Below w.heap.size w w' := by
  have HA := Lib.hid (colour_awake w hn)
  have HN := Lib.hid hn
  have hlen := h.len
  unfold maxLen at hlen
  have H := Lib.hid h
  have HX := Lib.hid hx
  clear hn h hx
  by_cases hl : 60 < xs.length
  · have hl' : (60 : Int) < (xs.length : Int) := by omega
    go_enter Tryd.func3, Tryd.ntmps3
    go_wp2_with fail
    refine HA.out.mono ?_
    rintro e w1 ⟨rfl, hb⟩
    have HB := Lib.hid hb
    clear hb
    go_wp2_with fail
    go_ret
    exact ⟨rfl, HB.out⟩
  have hl' : (xs.length : Int) ≤ 60 := by omega
  go_enter Tryd.func3, Tryd.ntmps3
  go_wp2_with fail
  refine HA.out.mono ?_
  rintro e w1 ⟨rfl, hb⟩
  have HB1 := Lib.hid hb
  clear hb
  go_wp2_with fail
  refine (letters_any _ A c xs ((H.out.below HB1.out).more HB1.out.size) HX.out (by omega) (HN.out.below (Nat.le_refl _) HB1.out)).mono ?_
  rintro e w2 ⟨rfl, hb⟩
  have HB2 := Lib.hid (HB1.out.trans (hb.mono HB1.out.size))
  clear hb
  go_wp2_with fail
  refine (count_any _ A c xs ((H.out.below HB2.out).more HB2.out.size) HX.out (by omega)).mono ?_
  rintro e w3 ⟨rfl, hb⟩
  have HB3 := Lib.hid (HB2.out.trans (hb.mono HB2.out.size))
  clear hb
  go_wp2_with fail
  refine (parse_any _ (letters xs) (by rw [letters_len]; omega)).mono ?_
  rintro e w4 ⟨v, r, rfl, hp, hb⟩
  have HB4 := Lib.hid (HB3.out.trans (hb.mono HB3.out.size))
  have HW4 := Lib.hid ((H.out.below HB4.out).more HB4.out.size)
  obtain ⟨hs1, hs2⟩ := cnt_sum xs (fun x hx => (HX.out x hx).1)
  have hbe : ((letters xs).toList == (letters xs).toList) = true := by simp
  have R0 := Lib.hid (refCount_any w4 A c xs 0 HW4.out (by decide) (by omega))
  have R1 := Lib.hid (refCount_any w4 A c xs 1 HW4.out (by decide) (by omega))
  have R2 := Lib.hid (refCount_any w4 A c xs 2 HW4.out (by decide) (by omega))
  have RL := Lib.hid (refLetters_any w4 A c xs HW4.out HX.out (by omega))
  have HP := Lib.hid hp
  have HS := Lib.hid hs2
  clear hb hp hs2
  generalize hn0 : cnt xs 0 = n0 at *
  generalize hn1 : cnt xs 1 = n1 at *
  generalize hn2 : cnt xs 2 = n2 at *
  clear hn0 hn1 hn2
  rcases HP.out with ⟨rfl, rfl, k, hk, hbad⟩ | ⟨rfl, ho, hg⟩
  · rw [letters_len] at hk
    have hlt : n0 + n1 + n2 < xs.length := by
      have hbig : ¬ ∀ x ∈ xs, x ≤ 2 := fun hall => by
        rw [by_letters xs k hk, lcode_lett _ ((HX.out _ (by rw [wd_nth xs k hk]; exact List.getElem_mem hk)).1), if_pos (hall _ (by rw [wd_nth xs k hk]; exact List.getElem_mem hk))] at hbad
        have := (HX.out (wd xs k) (by rw [wd_nth xs k hk]; exact List.getElem_mem hk)).1
        omega
      have : ¬ (n0 + n1 + n2 = xs.length) := fun e => hbig (HS.out.1 e)
      omega
    clear hbad hk
    have d : decide ((n0 : Int) + n1 + n2 < xs.length) = true := by simp; omega
    go_wp2_with fail
    refine RL.out.mono ?_
    rintro e w' ⟨rfl, rfl⟩
    go_wp2_with fail
    refine R0.out.mono ?_
    rintro e w' ⟨rfl, rfl⟩
    go_wp2_with fail
    refine R1.out.mono ?_
    rintro e w' ⟨rfl, rfl⟩
    go_wp2_with fail
    refine R2.out.mono ?_
    rintro e w' ⟨rfl, rfl⟩
    go_wp2_with fail
    go_ret
    exact ⟨by rfl, HB4.out⟩
  · have hall : ∀ x ∈ xs, x ≤ 2 := fun x hx => by
      obtain ⟨i, hi, rfl⟩ := List.mem_iff_getElem.1 hx
      have h1 := hg i (by rw [letters_len]; exact hi)
      rw [by_letters xs i hi, wd_nth xs i hi, lcode_lett _ (HX.out _ hx).1] at h1
      by_cases h2 : xs[i] ≤ 2
      · exact h2
      · rw [if_neg h2] at h1; omega
    have hsum := HS.out.2 hall
    rw [codes_letters xs (fun x hx => (HX.out x hx).1) hall] at ho
    obtain ⟨A', c', rfl, hw', _⟩ := ho.form
    have RS := Lib.hid (refsame_any w4 A' A c' c xs xs hw' HW4.out)
    rw [show sameB xs xs = true from decide_eq_true rfl] at RS
    have d : decide ((n0 : Int) + n1 + n2 < xs.length) = false := by simp; omega
    clear hall ho hw' hg hsum
    go_wp2_with fail
    refine RL.out.mono ?_
    rintro e w' ⟨rfl, rfl⟩
    go_wp2_with fail
    refine R0.out.mono ?_
    rintro e w' ⟨rfl, rfl⟩
    go_wp2_with fail
    refine R1.out.mono ?_
    rintro e w' ⟨rfl, rfl⟩
    go_wp2_with fail
    refine R2.out.mono ?_
    rintro e w' ⟨rfl, rfl⟩
    go_wp2_with fail
    refine RS.out.mono ?_
    rintro e w5 ⟨rfl, hk⟩
    have HB5 := Lib.hid (HB4.out.trans (hk.below (B := w.heap.size) HB4.out.size (fun k h => h.elim)))
    clear hk
    go_wp2_with fail
    go_ret
    exact ⟨by rfl, HB5.out⟩
end Go.Proofs.YtnbigldfklehgabDoor
