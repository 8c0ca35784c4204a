/- The contracts of package config: Check, Roots, Words, and of place: New, Size. -/
import Derived.Test.YtipoklnoknkfhaaDoorWords
import Derived.Deep.RegionHeld3
namespace Go.Proofs.YtipoklnoknkfhaaDoor
open Go Go.RowKit
set_option linter.unusedSimpArgs false
set_option linter.unusedVariables false

/-- a configuration -/
structure Cfg where
  cells : Int
  muts : Int
  regs : Int
  globs : Int
  deriving DecidableEq
abbrev Cfg.v (c : Cfg) : Value := .agg #[.int .i64 c.cells, .int .i64 c.muts, .int .i64 c.regs, .int .i64 c.globs]
abbrev Cfg.obj (c : Cfg) : Obj := .cells #[.int .i64 c.cells, .int .i64 c.muts, .int .i64 c.regs, .int .i64 c.globs] 23
/-- is it right? -/
def Cfg.ok (c : Cfg) : Bool := decide (2 ≤ c.cells ∧ c.cells ≤ 4096 ∧ 1 ≤ c.muts ∧ c.muts ≤ 63 ∧ 1 ≤ c.regs ∧ c.regs ≤ 64 ∧ 0 ≤ c.globs ∧ c.globs ≤ 64)
theorem Cfg.ok_iff (c : Cfg) : c.ok = true ↔ (2 ≤ c.cells ∧ c.cells ≤ 4096 ∧ 1 ≤ c.muts ∧ c.muts ≤ 63 ∧ 1 ≤ c.regs ∧ c.regs ≤ 64 ∧ 0 ≤ c.globs ∧ c.globs ≤ 64) := by
  unfold Cfg.ok; exact decide_eq_true_iff
def Cfg.roots (c : Cfg) : Int := if c.ok = true then 1 + c.globs + c.muts * c.regs else 0
def Cfg.words (c : Cfg) : Int := if c.ok = true then 4 + c.muts + c.roots + 3 * c.cells else 0
def Cfg.err (c : Cfg) : Int := if c.ok = true then 0 else 2
theorem mul_bd {a b x y : Int} (h0 : 0 ≤ a) (h1 : a ≤ x) (h2 : 0 ≤ b) (h3 : b ≤ y) : 0 ≤ a * b ∧ a * b ≤ x * y :=
  ⟨Int.mul_nonneg h0 h2, Int.le_trans (Int.mul_le_mul_of_nonneg_right h1 h2) (Int.mul_le_mul_of_nonneg_left h3 (by omega))⟩
theorem Cfg.mr (c : Cfg) (h : c.ok = true) : 1 ≤ c.muts * c.regs ∧ c.muts * c.regs ≤ 4032 := by
  rw [Cfg.ok_iff] at h
  have h1 := mul_bd (a := c.muts) (b := c.regs) (x := 63) (y := 64) (by omega) (by omega) (by omega) (by omega)
  have h2 : 1 * 1 ≤ c.muts * c.regs := Int.mul_le_mul (by omega) (by omega) (by omega) (by omega)
  omega

/-! ### within -/
def withinL : List Int → Bool
  | a :: b :: c :: r => !decide (a < b) && !decide (c < a) && withinL r
  | _ => true
theorem withinL_drop (xs : List Int) (k : Nat) (h : k + 2 < xs.length) : withinL (xs.drop k) = (!decide (wd xs k < wd xs (k+1)) && !decide (wd xs (k+2) < wd xs k) && withinL (xs.drop (k+3))) := by
  rw [List.drop_eq_getElem_cons (by omega : k < xs.length), List.drop_eq_getElem_cons (by omega : k+1 < xs.length), List.drop_eq_getElem_cons (by omega : k+1+1 < xs.length), withinL]
  simp only [wd, List.getD_eq_getElem?_getD, List.getElem?_eq_getElem (by omega : k < xs.length), List.getElem?_eq_getElem (by omega : k+1 < xs.length), List.getElem?_eq_getElem (by omega : k+2 < xs.length), Option.getD_some]
theorem withinL_end (xs : List Int) (k : Nat) (h : ¬ k + 2 < xs.length) : withinL (xs.drop k) = true := by
  have hl : (xs.drop k).length < 3 := by simp; omega
  match xs.drop k, hl with
  | [], _ => rfl
  | [_], _ => rfl
  | [_, _], _ => rfl

theorem within_any (w : World) (A : Option Addr) (c : Nat) (xs : List Int) (h : Ints .i64 w w.heap.size A xs) (hsz : xs.length ≤ 1000) :
    Calls Tryd.prog 105 #[.slice A xs.length c] w fun e w' => e = .returned (.bool (withinL xs)) ∧ Keep (fun _ => False) w w' := by
  have H := Lib.hid h
  clear h
  go_enter Tryd.func105, Tryd.ntmps105
  go_wp2_with fail
  go_loopw [3] (fun i wr => ∃ k : Nat, k ≤ xs.length + 2 ∧ i = .int .i64 k ∧ (Hid (withinL (xs.drop k) = withinL xs)) ∧ Keep (fun _ => False) w wr) (fun i _ => xs.length + 2 - (intOf i).toNat)
  case atStart => exact ⟨0, Nat.zero_le _, rfl, (show withinL (xs.drop 0) = withinL xs by simp), Keep.refl _ _⟩
  case round =>
    obtain ⟨k, hk, rfl, HE, hkp⟩ := hrel
    have hbl := Lib.hid (hkp.below (Nat.le_refl _) (fun k h => h.elim))
    have HK := Lib.hid hkp
    clear hkp
    by_cases hlt : k + 2 < xs.length
    · obtain ⟨ad, rfl, hB, hc0⟩ := H.out.cell hbl.out (show k < xs.length by omega)
      obtain ⟨ad', hE, _, hc1⟩ := H.out.cell hbl.out (show k + 1 < xs.length by omega)
      obtain rfl : ad = ad' := by injection hE
      obtain ⟨ad', hE', _, hc2⟩ := H.out.cell hbl.out hlt
      obtain rfl : ad = ad' := by injection hE'
      clear hE hE'
      rw [add_succ] at hc1 hc2
      have HD := Lib.hid (withinL_drop xs k hlt)
      have t0 : ((k : Int)).toNat = k := by omega
      have t1 : ((k : Int) + 1).toNat = k + 1 := by omega
      have t2 : ((k : Int) + 2).toNat = k + 2 := by omega
      have s1 : IntKind.i64.wrap ((k : Int) + 1) = (k : Int) + 1 := IntWalk.i64_in _ (by omega)
      have s2 : IntKind.i64.wrap ((k : Int) + 2) = (k : Int) + 2 := IntWalk.i64_in _ (by omega)
      have b0 : ((k : Nat) : Int) < ((xs.length : Nat) : Int) := by omega
      have b1 : ((k : Nat) : Int) + 1 < ((xs.length : Nat) : Int) := by omega
      have b2 : ((k : Nat) : Int) + 2 < ((xs.length : Nat) : Int) := by omega
      have p1 : 0 ≤ ((k : Nat) : Int) + 1 := by omega
      have p2 : 0 ≤ ((k : Nat) : Int) + 2 := by omega
      by_cases d1 : wd xs k < wd xs (k + 1)
      · have e1 : decide (wd xs k < wd xs (k + 1)) = true := by simpa using d1
        go_wp2_with fail
        go_quiet (fail)
        go_wp2_with fail
        go_ret
        refine ⟨?_, HK.out.drewN _⟩
        have : withinL xs = false := by rw [← HE.out, HD.out, e1]; rfl
        rw [this]; rfl
      · have e1 : decide (wd xs k < wd xs (k + 1)) = false := by simpa using d1
        by_cases d2 : wd xs (k + 2) < wd xs k
        · have e2 : decide (wd xs (k + 2) < wd xs k) = true := by simpa using d2
          go_wp2_with fail
          go_quiet (fail)
          go_wp2_with fail
          go_ret
          refine ⟨?_, HK.out.drewN _⟩
          have : withinL xs = false := by rw [← HE.out, HD.out, e1, e2]; rfl
          rw [this]; rfl
        · have e2 : decide (wd xs (k + 2) < wd xs k) = false := by simpa using d2
          go_wp2_with fail
          go_quiet (fail)
          clear s1 s2 t0 t1 t2
          go_wp2_with fail
          go_roundw
          case rel =>
            refine ⟨k + 3, by omega, by go_num, ?_, HK.out.drewN _⟩
            show withinL (xs.drop (k + 3)) = withinL xs
            rw [← HE.out, HD.out, e1, e2]; rfl
          case measure => simp [intOf]; omega
    · have hx : Hid (withinL xs = true) := by rw [Hid, ← HE.out, withinL_end xs k hlt]
      go_wp2_with fail
      go_ret
      exact ⟨by rw [hx.out]; rfl, HK.out⟩
end Go.Proofs.YtipoklnoknkfhaaDoor
