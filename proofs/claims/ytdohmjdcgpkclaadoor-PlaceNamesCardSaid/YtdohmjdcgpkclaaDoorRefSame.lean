/- The contracts of the reference's lists of words: Copy and Same. -/
import Derived.Test.YtdohmjdcgpkclaaDoorWords
namespace Go.Proofs.YtdohmjdcgpkclaaDoor
open Go Go.RowKit
set_option linter.unusedSimpArgs false
set_option linter.unusedVariables false

/-- are two lists the same, up to the first k? -/
def sameB (xs ys : List Int) : Bool := decide (xs = ys)
theorem wd_eq (xs : List Int) (i : Nat) (h : i < xs.length) : wd xs i = xs[i] := by simp [wd, h]
theorem same_of (xs ys : List Int) (hl : xs.length = ys.length) (h : ∀ i, i < xs.length → wd xs i = wd ys i) : sameB xs ys = true := by
  unfold sameB
  refine decide_eq_true (List.ext_getElem hl fun i h1 h2 => ?_)
  rw [← wd_eq xs i h1, ← wd_eq ys i h2]
  exact h i h1
theorem same_not (xs ys : List Int) (i : Nat) (h : ¬ wd xs i = wd ys i) : sameB xs ys = false := by
  unfold sameB
  refine decide_eq_false fun e => h (by rw [e])

theorem refsame_any (w : World) (A A' : Option Addr) (c c' : Nat) (xs ys : List Int) (hx : Words w w.heap.size A xs) (hy : Words w w.heap.size A' ys) :
    Calls Tryd.prog 30 #[.slice A xs.length c, .slice A' ys.length c'] w fun e w' => e = .returned (.bool (sameB xs ys)) ∧ Keep (fun _ => False) w w' := by
  have HX := Lib.hid hx
  have HY := Lib.hid hy
  have hm := hx.len
  unfold maxLen at hm
  clear hx hy
  by_cases hl : xs.length = ys.length
  · have hlb : (((xs.length : Nat) : Int) != ((ys.length : Nat) : Int)) = false := by rw [hl]; simp
    have HL := Lib.hid hl
    clear hl
    go_enter Tryd.func30, Tryd.ntmps30
    go_wp2_with fail
    clear hlb
    go_loopw [5] (fun i wr => ∃ k : Nat, k ≤ xs.length ∧ i = .int .i64 k ∧ (Hid (∀ j, j < k → wd xs j = wd ys j)) ∧ Keep (fun _ => False) w wr) (fun i _ => xs.length - (intOf i).toNat)
    case atStart => exact ⟨0, Nat.zero_le _, rfl, (fun j hj => absurd hj (by omega)), Keep.refl _ _⟩
    case round =>
      obtain ⟨k, hk, rfl, HS, hkp⟩ := hrel
      have hbl := Lib.hid (hkp.below (Nat.le_refl _) (fun k h => h.elim))
      have HK := Lib.hid hkp
      clear hkp
      by_cases hlt : k < xs.length
      · obtain ⟨ad, rfl, hB, hcx⟩ := HX.out.cell hbl.out hlt
        have hlt' : k < ys.length := by rw [← HL.out]; exact hlt
        obtain ⟨ad', rfl, hB', hcy⟩ := HY.out.cell hbl.out hlt'
        have i1 : ((k : Nat) : Int) < ((xs.length : Nat) : Int) := by omega
        have i2 : ((k : Nat) : Int) < ((ys.length : Nat) : Int) := by omega
        by_cases he : wd xs k = wd ys k
        · have heb : (wd xs k != wd ys k) = false := by simp [he]
          have HE := Lib.hid he
          clear he
          go_wp2_with fail
          go_quiet (fail)
          go_wp2_with fail
          go_roundw
          case rel =>
            refine ⟨k + 1, by omega, by go_num, fun j hj => ?_, HK.out.drewN _⟩
            by_cases hjk : j < k
            · exact HS.out j hjk
            · obtain rfl : j = k := by omega
              exact HE.out
          case measure => simp [intOf]; omega
        · have heb : (wd xs k != wd ys k) = true := by simp [he]
          have HE := Lib.hid he
          clear he
          go_wp2_with fail
          go_quiet (fail)
          go_wp2_with fail
          go_ret
          exact ⟨by rw [same_not xs ys k HE.out]; rfl, HK.out.drewN _⟩
      · go_wp2_with fail
        go_ret
        exact ⟨by rw [same_of xs ys HL.out (fun j hj => HS.out j (by omega))]; rfl, HK.out⟩
  · have hlb : (((xs.length : Nat) : Int) != ((ys.length : Nat) : Int)) = true := by
      rw [bne_iff_ne]; omega
    have hf : Hid (sameB xs ys = false) := by
      unfold sameB Hid
      exact decide_eq_false fun e => hl (by rw [e])
    clear hl
    go_enter Tryd.func30, Tryd.ntmps30
    go_wp2_with fail
    go_ret
    exact ⟨by rw [hf.out]; rfl, Keep.refl _ _⟩
end Go.Proofs.YtdohmjdcgpkclaaDoor
