/- An ideal store in use by one hand; what the law's awake does. -/
import Derived.Test.YtoapbfglpcebmaaIdealNew
namespace Go.Proofs.Ytoapbfglpcebmaa
open Go Go.RowKit
set_option linter.unusedSimpArgs false
set_option linter.unusedVariables false

def IsSto (w : World) (T : Nat → Prop) (b : Nat) (s : Sto) : Prop := ∃ gr kr vg vc, StoAt w T b s gr kr vg vc
theorem IsSto.keep {w w' : World} {T : Nat → Prop} {b : Nat} {s : Sto} (h : IsSto w T b s) {S : Nat → Prop} (k : Keep S w w') (hs : ∀ x, T x → ¬ S x) : IsSto w' T b s := by
  obtain ⟨gr, kr, vg, vc, h⟩ := h
  exact ⟨gr, kr, vg, vc, h.keep k hs⟩
theorem IsSto.below {w w' : World} {T : Nat → Prop} {b : Nat} {s : Sto} (h : IsSto w T b s) (k : Below w.heap.size w w') : IsSto w' T b s := by
  obtain ⟨gr, kr, vg, vc, h⟩ := h
  exact ⟨gr, kr, vg, vc, h.below k⟩
theorem IsSto.ok {w : World} {T : Nat → Prop} {b : Nat} {s : Sto} (h : IsSto w T b s) : s.Ok := by
  obtain ⟨gr, kr, vg, vc, h⟩ := h
  exact h.ok
theorem do_at (w : World) (T : Nat → Prop) (b : Nat) (s : Sto) (h : IsSto w T b s) (hT : ∀ x, w.heap.size ≤ x → T x) (m : Int) (x : Opr) (full : Bool) (hb : x.b < 9223372036854775808) (hf : s.cs.length < 1000000) :
    Calls Try.prog 24 #[.pointer (some ⟨b, 0, none⟩), .int .i64 m, x.v, .bool full] w fun e w' => e = .returned (.int .i64 (s.act m x full).2) ∧ IsSto w' T b (s.act m x full).1 ∧ Keep T w w' := by
  obtain ⟨gr, kr, vg, vc, h⟩ := h
  refine (ido_any w T b s gr kr vg vc h m x full hb hf).mono ?_
  rintro e w' ⟨he, ⟨gr', kr', vg', vc', h'⟩, hk⟩
  exact ⟨he, ⟨gr', kr', vg', vc', h'.wide (fun y hy => hy.elim id (fun hy => hT y hy.1))⟩, hk⟩
theorem reg_at (w : World) (T : Nat → Prop) (b : Nat) (s : Sto) (h : IsSto w T b s) (m r : Int) :
    Calls Try.prog 25 #[.pointer (some ⟨b, 0, none⟩), .int .i64 m, .int .i64 r] w fun e w' => e = .returned (.int .u64 (s.regAt m r)) ∧ ∃ n, w' = w.drewN n := by
  obtain ⟨gr, kr, vg, vc, h⟩ := h
  exact iReg_any w T b s gr kr vg vc h m r
theorem IsSto.drewN {w : World} {T : Nat → Prop} {b : Nat} {s : Sto} (h : IsSto w T b s) (n : Nat) : IsSto (w.drewN n) T b s := h.keep ((Keep.refl (fun _ => False) w).drewN n) (fun _ _ => id)
theorem new_at (w : World) (m r g : Int) (ok : (⟨2, m, r, g⟩ : Cfg).ok = true) :
    Calls Try.prog 22 #[.int .i64 m, .int .i64 r, .int .i64 g] w fun e w' => (∃ b, e = .returned (.tuple #[.pointer (some ⟨b, 0, none⟩), .int .i64 0]) ∧ IsSto w' (fun x => w.heap.size ≤ x ∧ x < w'.heap.size) b (Sto.new m r g)) ∧ Below w.heap.size w w' := by
  refine (inew_any w m r g).mono ?_
  rintro e w' ⟨hb, h⟩
  rw [if_pos ok] at h
  obtain ⟨b, gr, kr, vg, he, hs⟩ := h
  exact ⟨⟨b, he, gr, kr, vg, _, hs⟩, hb⟩

theorem ideal_awake (w : World) : Calls Try.prog 21 #[] w fun e w' => e = .returned (.bool true) ∧ Below w.heap.size w w' := by
  go_enter Try.func21, Try.ntmps21
  go_wp2_with fail
  refine (new_at _ 1 1 0 (by decide)).mono ?_
  rintro e w1 ⟨⟨b, rfl, hs⟩, hb⟩
  obtain ⟨gr, kr, vg, vc, hs⟩ := hs
  have HS := Lib.hid hs
  have HB := Lib.hid hb
  clear hs hb
  go_wp2_with fail
  refine (ido_any _ _ b (Sto.new 1 1 0) gr kr vg vc HS.out 0 ⟨3, 0, 0, 0⟩ false (by decide) (by decide)).mono ?_
  rintro e w2 ⟨rfl, ⟨gr', kr', vg', vc', hs⟩, hk⟩
  obtain ⟨s2, hs2⟩ : ∃ s2, s2 = ((Sto.new 1 1 0).act 0 ⟨3, 0, 0, 0⟩ false).1 := ⟨_, rfl⟩
  rw [← hs2] at hs
  rw [show ((Sto.new 1 1 0).act 0 ⟨3, 0, 0, 0⟩ false).2 = 1 by decide]
  have HR : Hid (s2.regAt 0 0 = 1) := by rw [hs2]; unfold Hid; decide
  have HA : Hid (s2.carAt 0 = 0) := by rw [hs2]; unfold Hid; decide
  have HL : Hid ((s2.cs.length : Int) = 1) := by rw [hs2]; unfold Hid; decide
  have HS2 := Lib.hid hs
  have HB2 : Hid (Below w.heap.size w w2) := HB.out.trans (hk.below HB.out.size (fun k h => h.1))
  clear hs hk hs2
  go_wp2_with fail
  refine (iReg_any _ _ b s2 gr' kr' vg' vc' HS2.out 0 0).mono ?_
  rintro e w3 ⟨rfl, n, rfl⟩
  rw [HR.out]
  go_wp2_with fail
  refine (iCar_any _ _ b s2 gr' kr' vg' vc' (HS2.out.drewN n) 0).mono ?_
  rintro e w3 ⟨rfl, hb⟩
  rw [HA.out]
  have HS3 := Lib.hid ((HS2.out.drewN n).below hb)
  have HB3 : Hid (Below w.heap.size w w3) := (below_drewN HB2.out n).trans (hb.mono (by simpa using HB2.out.size))
  clear hb
  go_wp2_with fail
  refine (ilen_any _ _ b s2 gr' kr' vg' vc' HS3.out).mono ?_
  rintro e w4 ⟨rfl, rfl⟩
  rw [HL.out]
  go_wp2_with fail
  go_ret
  exact ⟨rfl, HB3.out⟩
end Go.Proofs.Ytoapbfglpcebmaa
