/- More contracts of package arena: Len, All, Do. -/
import Derived.Test.YtnbigldfklehgabArena
import Derived.Test.YtnbigldfklehgabRef01
namespace Go.Proofs.Ytnbigldfklehgab
open Go Go.RowKit
set_option linter.unusedSimpArgs false
set_option linter.unusedVariables false

theorem alen_any (w : World) (b g : Nat) (xs : List Int) (h : IsArena w b g xs) :
    Calls Try.prog 21 #[.pointer (some ⟨b,0,none⟩)] w fun e w' => e = .returned (.int .i64 xs.length) ∧ w = w' := by
  have hc := h.hc
  have H := Lib.hid h
  clear h
  go_enter Try.func21, Try.ntmps21
  go_wp2
  go_ret
  exact ⟨rfl, rfl⟩

theorem ld_at (xs : List Int) (k : Nat) (h : k < xs.length) : ld xs (k : Int) = wd xs k := by
  unfold ld
  rw [if_pos ⟨by omega, by omega⟩]
  rfl
theorem take_wd (xs : List Int) (k : Nat) (h : k < xs.length) : xs.take (k + 1) = xs.take k ++ [wd xs k] := by
  rw [List.take_succ_eq_append_getElem h, wd_eq xs k h]

theorem all_any (w : World) (b g : Nat) (xs : List Int) (h : IsArena w b g xs) (hsz : xs.length * 8 ≤ 140737488355328) :
    Calls Try.prog 20 #[.pointer (some ⟨b,0,none⟩)] w fun e w' => ∃ v, e = .returned v ∧ Own .u64 45 w' w.heap.size v xs ∧ Below w.heap.size w w' := by
  have hm := h.len
  unfold maxLen at hm
  have hlt := h.lt
  have H := Lib.hid h
  clear h
  obtain ⟨i0, hi0, hz0, hz1, hz2⟩ := info_parts info_word
  go_enter Try.func20, Try.ntmps20
  go_wp2_with (go_at_call 21; refine (alen_any _ _ _ _ H.out).mono ?_; rintro e w' ⟨rfl, rfl⟩)
  go_loopw [3, 4, 7] (fun v _ i wr => ∃ k : Nat, k ≤ xs.length ∧ i = .int .i64 k ∧ Own .u64 45 wr w.heap.size v (xs.take k) ∧ Below w.heap.size w wr) (fun _ _ i _ => xs.length - (intOf i).toNat)
  case atStart => exact ⟨0, Nat.zero_le _, rfl, Own.none_ _ _ _ _, Below.refl _ _⟩
  case round =>
    obtain ⟨k, hk, rfl, ho, hb⟩ := hrel
    have HO := Lib.hid ho
    have HB := Lib.hid hb
    clear ho hb
    by_cases hlt2 : k < xs.length
    · have hA := Lib.hid (H.out.keep (Keep.of_below (HB.out.mono (Nat.le_refl _)) (fun _ => False)) id id)
      have hlk : (xs.take k).length < 17592186044416 := by simp; omega
      have HLK := Lib.hid hlk
      clear hlk
      have ho1 : Hid (Own .u64 45 (wr.alloc (.cells #[.int .u64 (ld xs k)] 45)) w.heap.size u3 (xs.take k)) := HO.out.keep ((Keep.refl (fun _ => False) _).alloc _) (fun _ _ h => h)
      go_wp2_with (first
        | (go_at_call 23; refine (load_any _ _ _ _ _ hA.out).mono ?_; rintro e w' ⟨rfl, rfl⟩)
        | (at_builtin
           refine wpList_append_one _ rfl (.tmp 10) (.tmp 14) _ rfl .u64 45 w.heap.size i0 8 Try.underlying39 hi0 hz0 hz1 hz2 (by omega) u3 (xs.take k) rfl
             ho1.out wr.heap.size 1 (ld xs k) rfl (by rw [cell_of_block (heap_alloc_new wr _)]; rfl) HLK.out (by have := HB.out.size; simp; omega) ?_
           intro v' w' ho2 hb2 _ _
           have HO2 := Lib.hid ho2
           have HB2 : Hid (Below w.heap.size w w') := (HB.out.alloc HB.out.size _).trans hb2
           clear ho2 hb2))
      go_roundw
      case rel => exact ⟨k + 1, by omega, by go_num, by rw [take_wd xs k hlt2, ← ld_at xs k hlt2]; exact HO2.out, HB2.out⟩
      case measure => simp [intOf]; omega
    · obtain rfl : k = xs.length := by omega
      go_wp2_with fail
      go_ret
      exact ⟨_, rfl, by have h := HO.out; rw [List.take_length] at h; exact h, HB.out⟩
end Go.Proofs.Ytnbigldfklehgab
