/- mudlarkref02.Letters; the walk of the law ColourLetters. -/
import Derived.Test.YtnbigldfklehgabDoorColourCount
import Derived.Test.YtnbigldfklehgabDoorColourParse
import Derived.Test.YtnbigldfklehgabDoorColourAwake
import Derived.Test.YtnbigldfklehgabDoorRefSame
namespace Go.Proofs.YtnbigldfklehgabDoor
open Go Go.RowKit
set_option linter.unusedSimpArgs false
set_option linter.unusedVariables false

theorem letters_more (xs : List Int) (k : Nat) (h : k < xs.length) : letters (xs.take k) ++ ⟨#[lett (wd xs k)]⟩ = letters (xs.take (k + 1)) := by
  apply ByteArray.ext
  apply Array.toList_inj.1
  unfold letters
  rw [wd_nth xs k h, List.take_succ_eq_append_getElem h, List.map_append]
  simp only [ByteArray.data_append, Array.toList_append]
  rfl
theorem letters_size (xs : List Int) (k : Nat) (h : k ≤ xs.length) : (letters (xs.take k)).size = k := by
  show ((xs.take k).map lett).toArray.size = k
  simp
  omega
set_option maxHeartbeats 4000000 in
theorem refLetters_any (w : World) (A : Option Addr) (c : Nat) (xs : List Int) (h : Words w w.heap.size A xs) (hx : ∀ x ∈ xs, 0 ≤ x ∧ x < 18446744073709551616) (hl : xs.length ≤ 1000) :
    Calls Tryd.prog 8 #[.slice A xs.length c] w fun e w' => e = .returned (.string (letters xs)) ∧ w' = w := by
  have H := Lib.hid h
  have HX := Lib.hid hx
  clear h hx
  go_enter Tryd.func8, Tryd.ntmps8
  go_wp2_with fail
  go_loopw [3, 4] (fun s i wr => ∃ k : Nat, k ≤ xs.length ∧ i = .int .i64 k ∧ s = .string (letters (xs.take k)) ∧ wr = w) (fun _ i _ => xs.length - (intOf i).toNat)
  case atStart => exact ⟨0, Nat.zero_le _, rfl, rfl, rfl⟩
  case round =>
    obtain ⟨k, hk, rfl, rfl, rfl⟩ := hrel
    by_cases hlt : k < xs.length
    · obtain ⟨ad, rfl, hB, hcx⟩ := H.out.cell (Below.refl _ _) hlt
      have i1 : ((k : Nat) : Int) < ((xs.length : Nat) : Int) := by omega
      have hw := HX.out (wd xs k) (by rw [wd_nth xs k hlt]; exact List.getElem_mem hlt)
      have HM := Lib.hid (letters_more xs k hlt)
      have hsz : (letters (xs.take k)).size ≤ 1000 := by rw [letters_size xs k hk]; omega
      obtain ⟨L, hL⟩ : ∃ L, L = letters (xs.take k) := ⟨_, rfl⟩
      rw [← hL] at HM hsz ⊢
      clear hL
      by_cases hbig : 2 < wd xs k
      · obtain ⟨e1, e2⟩ := cname_big _ hbig
        rw [e2] at HM
        have E1 := Lib.hid e1
        clear e1 e2 hbig
        go_wp2_with fail
        refine (refName_any _ _ hw.1 hw.2).mono ?_
        rintro e w' ⟨rfl, rfl⟩
        rw [E1.out]
        go_wp2_with fail
        go_roundw
        case rel => exact ⟨k + 1, by omega, by go_num, by rw [← HM.out]; rfl, trivial⟩
        case measure => simp [intOf]; omega
      · obtain e | e | e : wd xs k = 0 ∨ wd xs k = 1 ∨ wd xs k = 2 := by omega
        all_goals
          rw [e] at HM hcx hw
          clear hbig e
          go_wp2_with fail
          refine (refName_any _ _ hw.1 hw.2).mono ?_
          rintro e w' ⟨rfl, rfl⟩
          first
            | rw [show cname 0 = ⟨#[119, 104, 105, 116, 101]⟩ from rfl]
            | rw [show cname 1 = ⟨#[103, 114, 101, 121]⟩ from rfl]
            | rw [show cname 2 = ⟨#[98, 108, 97, 99, 107]⟩ from rfl]
          go_wp2_with fail
          go_roundw
          case rel => exact ⟨k + 1, by omega, by go_num, by rw [← HM.out]; rfl, trivial⟩
          case measure => simp [intOf]; omega
    · obtain rfl : k = xs.length := by omega
      go_wp2_with fail
      go_ret
      exact ⟨by rw [List.take_length]; rfl, rfl⟩
theorem cnt_cons (x : Int) (xs : List Int) (c : Int) : cnt (x :: xs) c = cnt xs c + if x = c then 1 else 0 := by
  unfold cnt
  by_cases h : x = c <;> simp [h]
theorem cnt_sum : ∀ (xs : List Int), (∀ x ∈ xs, 0 ≤ x) → cnt xs 0 + cnt xs 1 + cnt xs 2 ≤ xs.length ∧ (cnt xs 0 + cnt xs 1 + cnt xs 2 = xs.length ↔ ∀ x ∈ xs, x ≤ 2) := by
  intro xs
  induction xs with
  | nil => intro _; exact ⟨Nat.le_refl _, by simp [cnt]⟩
  | cons x xs ih =>
    intro h
    obtain ⟨h1, h2⟩ := ih (fun y hy => h y (List.mem_cons_of_mem _ hy))
    have hx := h x (List.mem_cons_self ..)
    rw [cnt_cons, cnt_cons, cnt_cons, List.length_cons]
    by_cases hb : x ≤ 2
    · have e : (if x = 0 then 1 else 0) + (if x = 1 then 1 else 0) + (if x = 2 then 1 else 0) = 1 := by
        obtain rfl | rfl | rfl : x = 0 ∨ x = 1 ∨ x = 2 := by omega
        all_goals rfl
      refine ⟨by omega, ?_⟩
      rw [List.forall_mem_cons]
      constructor
      · intro hh
        exact ⟨hb, h2.1 (by omega)⟩
      · intro hh
        have := h2.2 hh.2
        omega
    · rw [if_neg (by omega), if_neg (by omega), if_neg (by omega)]
      refine ⟨by omega, ?_⟩
      rw [List.forall_mem_cons]
      constructor
      · intro hh; omega
      · intro hh; exact absurd hh.1 hb
theorem lcode_lett (x : Int) (h0 : 0 ≤ x) : lcode (lett x) = if x ≤ 2 then x else -1 := by
  by_cases hb : x ≤ 2
  · obtain rfl | rfl | rfl : x = 0 ∨ x = 1 ∨ x = 2 := by omega
    all_goals rfl
  · rw [if_neg hb]
    unfold lett
    rw [if_neg (by omega), if_neg (by omega), if_neg (by omega)]
    rfl
theorem by_letters (xs : List Int) (k : Nat) (h : k < xs.length) : by_ (letters xs) k = lett (wd xs k) := by
  unfold by_ letters
  rw [wd_nth xs k h]
  simp [List.getD, h]
theorem letters_len (xs : List Int) : (letters xs).size = xs.length := by
  have := letters_size xs xs.length (Nat.le_refl _)
  rwa [List.take_length] at this
theorem codes_letters (xs : List Int) (h0 : ∀ x ∈ xs, 0 ≤ x) (h : ∀ x ∈ xs, x ≤ 2) : codes (letters xs) (letters xs).size = xs := by
  rw [letters_len]
  unfold codes letters
  rw [List.take_of_length_le (by simp)]
  simp only [List.map_map]
  apply List.ext_getElem
  · simp
  · intro i h1 h2
    simp only [List.getElem_map, Function.comp]
    rw [lcode_lett _ (h0 _ (List.getElem_mem _)), if_pos (h _ (List.getElem_mem _))]
end Go.Proofs.YtnbigldfklehgabDoor
