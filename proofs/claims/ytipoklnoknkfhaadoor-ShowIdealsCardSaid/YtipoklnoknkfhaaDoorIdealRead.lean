/- The contracts of an ideal store's small functions: reg, at, yes, Reg, Glob, cell, Car, Cdr, Len. -/
import Derived.Test.YtipoklnoknkfhaaDoorIdeal
import Derived.Test.YtipoklnoknkfhaaDoorWordAll
namespace Go.Proofs.YtipoklnoknkfhaaDoor
open Go Go.RowKit
set_option linter.unusedSimpArgs false
set_option linter.unusedVariables false

theorem ireg_any (w : World) (T : Nat → Prop) (b : Nat) (s : Sto) (gr kr : Nat) (vg vc : Value) (h : StoAt w T b s gr kr vg vc) (m r : Int) (hm : 0 ≤ m ∧ m < s.c.muts) (hr : 0 ≤ r ∧ r < s.c.regs) :
    Calls Tryd.prog 52 #[.pointer (some ⟨b, 0, none⟩), .int .i64 m, .int .i64 r] w fun e w' => e = .returned (.pointer (some ⟨gr, s.ix m r, none⟩)) ∧ ∃ n, w' = w.drewN n := by
  obtain ⟨k0, k1, k2, k3, k4, k5, k6, kf⟩ := h.hc
  obtain ⟨i1, i2, i3, i4⟩ := h.ok.ix hm.1 hm.2 hr.1 hr.2
  have hlen := (h.r.form)
  have hm0 := hm.1
  have hr0 := hr.1
  have s1 : IntKind.i64.wrap (m * s.c.regs) = m * s.c.regs := IntWalk.i64_in _ (by omega)
  have s2 : IntKind.i64.wrap (m * s.c.regs + r) = m * s.c.regs + r := IntWalk.i64_in _ (by omega)
  have b1 : 0 ≤ m * s.c.regs + r := by omega
  have b2 : m * s.c.regs + r < (s.rs.length : Int) := by omega
  have t1 : (m * s.c.regs + r).toNat = s.ix m r := rfl
  generalize s.ix m r = ix at *
  clear i1 i2 i4 hm hr hm0 hr0 hlen k0 k1 k3 k5 k6 kf h
  go_enter Tryd.func52, Tryd.ntmps52
  go_wp2_with fail
  go_quiet (fail)
  go_wp2_with fail
  go_ret
  exact ⟨by simp, _, rfl⟩


theorem iat_any (w : World) (T : Nat → Prop) (b : Nat) (s : Sto) (gr kr : Nat) (vg vc : Value) (h : StoAt w T b s gr kr vg vc) (x : Int) (hx : Wd s.cs.length x) :
    Calls Tryd.prog 53 #[.pointer (some ⟨b, 0, none⟩), .int .u64 x] w fun e w' => w' = w ∧
      ((s.at_ x = none ∧ e = .returned (.pointer none)) ∨ ∃ (i gc kc : Nat), s.at_ x = some i ∧ i < s.cs.length ∧ vc = .slice (some ⟨gc, 0, none⟩) s.cs.length kc ∧ e = .returned (.pointer (some ⟨gc, i * 2, none⟩))) := by
  obtain ⟨k0, k1, k2, k3, k4, k5, k6, kf⟩ := h.hc
  have hfew := h.ok.few
  obtain ⟨x0, x1, x2⟩ := hx
  have e1 := and_one x x0 x1
  have hw : IntKind.i64.wrap (x / 2) = x / 2 := IntWalk.i64_in _ (by omega)
  have d1 : decide (x / 2 < 0) = false := by simp; omega
  rcases Int.emod_two_eq x with ho | ho
  · rw [ho] at e1
    have HA : Hid (s.at_ x = none) := by unfold Hid Sto.at_; rw [if_neg (by omega)]
    clear x2 k0 k1 k2 k3 k4 k5 kf h ho
    go_enter Tryd.func53, Tryd.ntmps53
    go_wp2_with fail
    go_ret
    exact ⟨rfl, Or.inl ⟨HA.out, rfl⟩⟩
  · have h2 := x2 ho
    obtain ⟨gc, kc, rfl, _⟩ := h.ccell (i := (x / 2).toNat) (by omega)
    have HA : Hid (s.at_ x = some (x / 2).toNat) := by unfold Hid Sto.at_; rw [if_pos ⟨ho, h2⟩]
    have hlt : (x / 2).toNat < s.cs.length := by omega
    rw [ho] at e1
    have d2 : decide ((s.cs.length : Int) ≤ x / 2) = false := by simp; omega
    have b1 : 0 ≤ x / 2 := by omega
    clear x2 k0 k1 k2 k3 k4 k5 kf h ho
    go_enter Tryd.func53, Tryd.ntmps53
    go_wp2_with fail
    go_ret
    exact ⟨rfl, Or.inr ⟨_, gc, kc, HA.out, hlt, rfl, by simp⟩⟩
theorem iyes_any (w : World) (c : Bool) : Calls Tryd.prog 54 #[.bool c] w fun e w' => e = .returned (.int .i64 (if c = true then 2 else 3)) ∧ w' = w := by
  cases c
  all_goals
    go_enter Tryd.func54, Tryd.ntmps54
    go_wp2_with fail
    go_ret
    exact ⟨rfl, rfl⟩
theorem ilen_any (w : World) (T : Nat → Prop) (b : Nat) (s : Sto) (gr kr : Nat) (vg vc : Value) (h : StoAt w T b s gr kr vg vc) :
    Calls Tryd.prog 194 #[.pointer (some ⟨b, 0, none⟩)] w fun e w' => e = .returned (.int .i64 s.cs.length) ∧ w' = w := by
  obtain ⟨k0, k1, k2, k3, k4, k5, k6, kf⟩ := h.hc
  have hv : ∃ A c, vc = .slice A s.cs.length c := by
    rcases h.cl.2 with ⟨rfl, e⟩ | ⟨g, cap, cur, rfl, _⟩
    · exact ⟨none, 0, by rw [e]⟩
    · exact ⟨_, _, rfl⟩
  obtain ⟨A, c, rfl⟩ := hv
  clear h k0 k1 k2 k3 k4 k5 kf
  go_enter Tryd.func194, Tryd.ntmps194
  go_wp2_with fail
  go_ret
  exact ⟨rfl, rfl⟩
end Go.Proofs.YtipoklnoknkfhaaDoor
