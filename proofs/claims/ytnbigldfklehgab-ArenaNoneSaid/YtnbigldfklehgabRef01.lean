/- The contracts of the reference's lists of words: Copy and Same. -/
import Derived.Test.YtnbigldfklehgabWords
namespace Go.Proofs.Ytnbigldfklehgab
open Go Go.RowKit
set_option linter.unusedSimpArgs false
set_option linter.unusedVariables false

theorem info_word : (Try.prog.info? 45).map (fun i => (i.zero, i.size, i.bytes)) = some (some (.int .u64 0), 1, 8) := by kernel_rfl

theorem refcopy_any (w : World) (A : Option Addr) (c : Nat) (xs : List Int) (h : Words w w.heap.size A xs) (hsz : xs.length * 8 ≤ 140737488355328) :
    Calls Try.prog 16 #[.slice A xs.length c] w fun e w' => ∃ v, e = .returned v ∧ Own .u64 45 w' w.heap.size v xs ∧ Below w.heap.size w w' := by
  have HR := Lib.hid (h.reads)
  have hm := h.len
  have HX := Lib.hid (ints_oneCell .u64 xs)
  clear h
  obtain ⟨i0, hi0, hz0, hz1, hz2⟩ := info_parts info_word
  go_enter Try.func16, Try.ntmps16
  have hb0 : Hid (Below w.heap.size w (w.alloc (.cells #[] 45))) := (Below.refl _ _).alloc (Nat.le_refl _) _
  have hown : Hid ((w.alloc (.cells #[] 45)).ownsRow w.heap.size 45 1 (.slice (some ⟨w.heap.size, 0, none⟩) 0 0) 0 []) := ⟨by simp, .inr ⟨w.heap.size, 0, #[], rfl, Nat.le_refl _, heap_alloc_new w _, by simp, by simp, by simp, by simp⟩⟩
  go_wp2_with (first
    | (at_builtin
       refine wpList_append_any _ rfl (.tmp 3) (.tmp 4) _ rfl w.heap.size 45 i0 _ 1 8 Try.underlying39 hi0 hz0 hz1 hz2 rfl (by omega) (.slice (some ⟨w.heap.size, 0, none⟩) 0 0) 0 [] rfl
         hown.out w.heap.size A xs.length c _ rfl (HR.out.below hb0.out) HX.out (by omega) (by omega) (by simp) ?_
       intro v1 w1 hown1 hg1 hat1
       have HO := Lib.hid hown1
       have HB : Hid (Below w.heap.size w w1) := hb0.out.grown hg1 (by simp) (fun k hk => by simp [Value.ownBlock] at hk; omega)
       clear hown1 hg1 hat1))
  go_ret
  exact ⟨v1, rfl, Own.cast HO.out (by simp) (by simp), HB.out⟩

/-- are two lists the same, up to the first k? -/
def sameB (xs ys : List Int) : Bool := decide (xs = ys)
theorem wd_eq (xs : List Int) (i : Nat) (h : i < xs.length) : wd xs i = xs[i] := by simp [wd, h]
theorem same_of (xs ys : List Int) (hl : xs.length = ys.length) (h : ∀ i, i < xs.length → wd xs i = wd ys i) : sameB xs ys = true := by
  unfold sameB
  refine decide_eq_true (List.ext_getElem hl fun i h1 h2 => ?_)
  rw [← wd_eq xs i h1, ← wd_eq ys i h2]
  exact h i h1
theorem same_not (xs ys : List Int) (i : Nat) (h : ¬ wd xs i = wd ys i) : sameB xs ys = false := by
  unfold sameB
  refine decide_eq_false fun e => h (by rw [e])

theorem refsame_any (w : World) (A A' : Option Addr) (c c' : Nat) (xs ys : List Int) (hx : Words w w.heap.size A xs) (hy : Words w w.heap.size A' ys) :
    Calls Try.prog 19 #[.slice A xs.length c, .slice A' ys.length c'] w fun e w' => e = .returned (.bool (sameB xs ys)) ∧ Keep (fun _ => False) w w' := by
  have HX := Lib.hid hx
  have HY := Lib.hid hy
  have hm := hx.len
  unfold maxLen at hm
  clear hx hy
  by_cases hl : xs.length = ys.length
  · have hlb : (((xs.length : Nat) : Int) != ((ys.length : Nat) : Int)) = false := by rw [hl]; simp
    have HL := Lib.hid hl
    clear hl
    go_enter Try.func19, Try.ntmps19
    go_wp2_with fail
    clear hlb
    go_loopw [5] (fun i wr => ∃ k : Nat, k ≤ xs.length ∧ i = .int .i64 k ∧ (Hid (∀ j, j < k → wd xs j = wd ys j)) ∧ Keep (fun _ => False) w wr) (fun i _ => xs.length - (intOf i).toNat)
    case atStart => exact ⟨0, Nat.zero_le _, rfl, (fun j hj => absurd hj (by omega)), Keep.refl _ _⟩
    case round =>
      obtain ⟨k, hk, rfl, HS, hkp⟩ := hrel
      have hbl := Lib.hid (hkp.below (Nat.le_refl _) (fun k h => h.elim))
      have HK := Lib.hid hkp
      clear hkp
      by_cases hlt : k < xs.length
      · obtain ⟨ad, rfl, hB, hcx⟩ := HX.out.cell hbl.out hlt
        have hlt' : k < ys.length := by rw [← HL.out]; exact hlt
        obtain ⟨ad', rfl, hB', hcy⟩ := HY.out.cell hbl.out hlt'
        have i1 : ((k : Nat) : Int) < ((xs.length : Nat) : Int) := by omega
        have i2 : ((k : Nat) : Int) < ((ys.length : Nat) : Int) := by omega
        by_cases he : wd xs k = wd ys k
        · have heb : (wd xs k != wd ys k) = false := by simp [he]
          have HE := Lib.hid he
          clear he
          go_wp2_with fail
          go_quiet (fail)
          go_wp2_with fail
          go_roundw
          case rel =>
            refine ⟨k + 1, by omega, by go_num, fun j hj => ?_, HK.out.drewN _⟩
            by_cases hjk : j < k
            · exact HS.out j hjk
            · obtain rfl : j = k := by omega
              exact HE.out
          case measure => simp [intOf]; omega
        · have heb : (wd xs k != wd ys k) = true := by simp [he]
          have HE := Lib.hid he
          clear he
          go_wp2_with fail
          go_quiet (fail)
          go_wp2_with fail
          go_ret
          exact ⟨by rw [same_not xs ys k HE.out]; rfl, HK.out.drewN _⟩
      · go_wp2_with fail
        go_ret
        exact ⟨by rw [same_of xs ys HL.out (fun j hj => HS.out j (by omega))]; rfl, HK.out⟩
  · have hlb : (((xs.length : Nat) : Int) != ((ys.length : Nat) : Int)) = true := by
      rw [bne_iff_ne]; omega
    have hf : Hid (sameB xs ys = false) := by
      unfold sameB Hid
      exact decide_eq_false fun e => hl (by rw [e])
    clear hl
    go_enter Try.func19, Try.ntmps19
    go_wp2_with fail
    go_ret
    exact ⟨by rw [hf.out]; rfl, Keep.refl _ _⟩
end Go.Proofs.Ytnbigldfklehgab
