/- The walk of the law IdealPairs. -/
import Derived.Test.YtoapbfglpcebmaaIdealUse
namespace Go.Proofs.Ytoapbfglpcebmaa
open Go Go.RowKit
set_option linter.unusedSimpArgs false
set_option linter.unusedVariables false

theorem pdo_any (w : World) (T : Nat → Prop) (b V : Nat) (s : Sto) (hV : w.cell? ⟨V, 0, none⟩ = some (.pointer (some ⟨b, 0, none⟩))) (h : IsSto w T b s) (hT : ∀ x, w.heap.size ≤ x → T x) (m k x y z : Int) (hb : y < 9223372036854775808) (hf : s.cs.length < 1000000) :
    Calls Try.prog 23 #[.int .i64 m, .int .i64 k, .int .i64 x, .int .i64 y, .int .i64 z, .pointer (some ⟨V, 0, none⟩)] w fun e w' => e = .returned (.int .i64 (s.act m ⟨k, x, y, z⟩ false).2) ∧ IsSto w' T b (s.act m ⟨k, x, y, z⟩ false).1 ∧ Keep T w w' := by
  have HS := Lib.hid h
  have HT := Lib.hid hT
  clear h hT
  go_enter Try.func23, Try.ntmps23
  go_wp2_with fail
  refine (do_at _ T b s HS.out HT.out m ⟨k, x, y, z⟩ false hb hf).mono ?_
  rintro e w' ⟨rfl, hs, hk⟩
  have HS2 := Lib.hid hs
  have HK2 := Lib.hid hk
  clear hs hk
  go_wp2_with fail
  go_ret
  exact ⟨rfl, HS2.out, HK2.out⟩
abbrev pst (r0 r1 r2 r3 r4 r5 g : Int) (cs : List (Int × Int)) : Sto := ⟨⟨2, 2, 4, 1⟩, [r0, r1, r2, r3, r4, r5, 0, 0], [g], cs⟩
theorem ps0 (a b c : Int) (ha : 0 ≤ a ∧ a < 256) (hb : 0 ≤ b ∧ b < 256) (hc : 0 ≤ c ∧ c < 256) : (pst 0 0 0 0 0 0 0 []).act 0 ⟨1, 0, a, 0⟩ false = (pst (a * 2) 0 0 0 0 0 0 [], 1) := by
  obtain ⟨_, _⟩ := ha
  obtain ⟨_, _⟩ := hb
  obtain ⟨_, _⟩ := hc
  have e : ∀ n : Int, ¬ n * 2 % 2 = 1 := fun n => by omega
  have n1 : ¬ a < 0 := by omega
  have n2 : ¬ b < 0 := by omega
  have n3 : ¬ c < 0 := by omega
  simp [Sto.act, Sto.fits, Opr.err, Cfg.ok, badFrom, fparts, pbad, Opr.num, Sto.did, Sto.setReg, Sto.reg, Sto.ix, wd, Sto.at_, Sto.push, Sto.car, Sto.cdr, Sto.setCdr, pst, e, n1, n2, n3, *]
theorem ps1 (a b c : Int) (ha : 0 ≤ a ∧ a < 256) (hb : 0 ≤ b ∧ b < 256) (hc : 0 ≤ c ∧ c < 256) : (pst (a * 2) 0 0 0 0 0 0 []).act 0 ⟨1, 1, b, 0⟩ false = (pst (a * 2) (b * 2) 0 0 0 0 0 [], 1) := by
  obtain ⟨_, _⟩ := ha
  obtain ⟨_, _⟩ := hb
  obtain ⟨_, _⟩ := hc
  have e : ∀ n : Int, ¬ n * 2 % 2 = 1 := fun n => by omega
  have n1 : ¬ a < 0 := by omega
  have n2 : ¬ b < 0 := by omega
  have n3 : ¬ c < 0 := by omega
  simp [Sto.act, Sto.fits, Opr.err, Cfg.ok, badFrom, fparts, pbad, Opr.num, Sto.did, Sto.setReg, Sto.reg, Sto.ix, wd, Sto.at_, Sto.push, Sto.car, Sto.cdr, Sto.setCdr, pst, e, n1, n2, n3, *]
theorem ps2 (a b c : Int) (ha : 0 ≤ a ∧ a < 256) (hb : 0 ≤ b ∧ b < 256) (hc : 0 ≤ c ∧ c < 256) : (pst (a * 2) (b * 2) 0 0 0 0 0 []).act 0 ⟨3, 2, 0, 1⟩ false = (pst (a * 2) (b * 2) 1 0 0 0 0 [(a * 2, b * 2)], 1) := by
  obtain ⟨_, _⟩ := ha
  obtain ⟨_, _⟩ := hb
  obtain ⟨_, _⟩ := hc
  have e : ∀ n : Int, ¬ n * 2 % 2 = 1 := fun n => by omega
  have n1 : ¬ a < 0 := by omega
  have n2 : ¬ b < 0 := by omega
  have n3 : ¬ c < 0 := by omega
  simp [Sto.act, Sto.fits, Opr.err, Cfg.ok, badFrom, fparts, pbad, Opr.num, Sto.did, Sto.setReg, Sto.reg, Sto.ix, wd, Sto.at_, Sto.push, Sto.car, Sto.cdr, Sto.setCdr, pst, e, n1, n2, n3, *]
theorem ps3 (a b c : Int) (ha : 0 ≤ a ∧ a < 256) (hb : 0 ≤ b ∧ b < 256) (hc : 0 ≤ c ∧ c < 256) : (pst (a * 2) (b * 2) 1 0 0 0 0 [(a * 2, b * 2)]).act 0 ⟨9, 0, 2, 0⟩ false = (pst (a * 2) (b * 2) 1 0 0 0 1 [(a * 2, b * 2)], 1) := by
  obtain ⟨_, _⟩ := ha
  obtain ⟨_, _⟩ := hb
  obtain ⟨_, _⟩ := hc
  have e : ∀ n : Int, ¬ n * 2 % 2 = 1 := fun n => by omega
  have n1 : ¬ a < 0 := by omega
  have n2 : ¬ b < 0 := by omega
  have n3 : ¬ c < 0 := by omega
  simp [Sto.act, Sto.fits, Opr.err, Cfg.ok, badFrom, fparts, pbad, Opr.num, Sto.did, Sto.setReg, Sto.reg, Sto.ix, wd, Sto.at_, Sto.push, Sto.car, Sto.cdr, Sto.setCdr, pst, e, n1, n2, n3, *]
theorem ps4 (a b c : Int) (ha : 0 ≤ a ∧ a < 256) (hb : 0 ≤ b ∧ b < 256) (hc : 0 ≤ c ∧ c < 256) : (pst (a * 2) (b * 2) 1 0 0 0 1 [(a * 2, b * 2)]).act 1 ⟨8, 0, 0, 0⟩ false = (pst (a * 2) (b * 2) 1 0 1 0 1 [(a * 2, b * 2)], 1) := by
  obtain ⟨_, _⟩ := ha
  obtain ⟨_, _⟩ := hb
  obtain ⟨_, _⟩ := hc
  have e : ∀ n : Int, ¬ n * 2 % 2 = 1 := fun n => by omega
  have n1 : ¬ a < 0 := by omega
  have n2 : ¬ b < 0 := by omega
  have n3 : ¬ c < 0 := by omega
  simp [Sto.act, Sto.fits, Opr.err, Cfg.ok, badFrom, fparts, pbad, Opr.num, Sto.did, Sto.setReg, Sto.reg, Sto.ix, wd, Sto.at_, Sto.push, Sto.car, Sto.cdr, Sto.setCdr, pst, e, n1, n2, n3, *]
theorem ps5 (a b c : Int) (ha : 0 ≤ a ∧ a < 256) (hb : 0 ≤ b ∧ b < 256) (hc : 0 ≤ c ∧ c < 256) : (pst (a * 2) (b * 2) 1 0 1 0 1 [(a * 2, b * 2)]).act 1 ⟨1, 1, c, 0⟩ false = (pst (a * 2) (b * 2) 1 0 1 (c * 2) 1 [(a * 2, b * 2)], 1) := by
  obtain ⟨_, _⟩ := ha
  obtain ⟨_, _⟩ := hb
  obtain ⟨_, _⟩ := hc
  have e : ∀ n : Int, ¬ n * 2 % 2 = 1 := fun n => by omega
  have n1 : ¬ a < 0 := by omega
  have n2 : ¬ b < 0 := by omega
  have n3 : ¬ c < 0 := by omega
  simp [Sto.act, Sto.fits, Opr.err, Cfg.ok, badFrom, fparts, pbad, Opr.num, Sto.did, Sto.setReg, Sto.reg, Sto.ix, wd, Sto.at_, Sto.push, Sto.car, Sto.cdr, Sto.setCdr, pst, e, n1, n2, n3, *]
theorem ps6 (a b c : Int) (ha : 0 ≤ a ∧ a < 256) (hb : 0 ≤ b ∧ b < 256) (hc : 0 ≤ c ∧ c < 256) : (pst (a * 2) (b * 2) 1 0 1 (c * 2) 1 [(a * 2, b * 2)]).act 1 ⟨7, 0, 1, 0⟩ false = (pst (a * 2) (b * 2) 1 0 1 (c * 2) 1 [(a * 2, c * 2)], 1) := by
  obtain ⟨_, _⟩ := ha
  obtain ⟨_, _⟩ := hb
  obtain ⟨_, _⟩ := hc
  have e : ∀ n : Int, ¬ n * 2 % 2 = 1 := fun n => by omega
  have n1 : ¬ a < 0 := by omega
  have n2 : ¬ b < 0 := by omega
  have n3 : ¬ c < 0 := by omega
  simp [Sto.act, Sto.fits, Opr.err, Cfg.ok, badFrom, fparts, pbad, Opr.num, Sto.did, Sto.setReg, Sto.reg, Sto.ix, wd, Sto.at_, Sto.push, Sto.car, Sto.cdr, Sto.setCdr, pst, e, n1, n2, n3, *]
theorem ps7 (a b c : Int) (ha : 0 ≤ a ∧ a < 256) (hb : 0 ≤ b ∧ b < 256) (hc : 0 ≤ c ∧ c < 256) : (pst (a * 2) (b * 2) 1 0 1 (c * 2) 1 [(a * 2, c * 2)]).act 0 ⟨4, 3, 2, 0⟩ false = (pst (a * 2) (b * 2) 1 (a * 2) 1 (c * 2) 1 [(a * 2, c * 2)], 1) := by
  obtain ⟨_, _⟩ := ha
  obtain ⟨_, _⟩ := hb
  obtain ⟨_, _⟩ := hc
  have e : ∀ n : Int, ¬ n * 2 % 2 = 1 := fun n => by omega
  have n1 : ¬ a < 0 := by omega
  have n2 : ¬ b < 0 := by omega
  have n3 : ¬ c < 0 := by omega
  simp [Sto.act, Sto.fits, Opr.err, Cfg.ok, badFrom, fparts, pbad, Opr.num, Sto.did, Sto.setReg, Sto.reg, Sto.ix, wd, Sto.at_, Sto.push, Sto.car, Sto.cdr, Sto.setCdr, pst, e, n1, n2, n3, *]
theorem ps8 (a b c : Int) (ha : 0 ≤ a ∧ a < 256) (hb : 0 ≤ b ∧ b < 256) (hc : 0 ≤ c ∧ c < 256) : (pst (a * 2) (b * 2) 1 (a * 2) 1 (c * 2) 1 [(a * 2, c * 2)]).act 0 ⟨5, 0, 2, 0⟩ false = (pst (c * 2) (b * 2) 1 (a * 2) 1 (c * 2) 1 [(a * 2, c * 2)], 1) := by
  obtain ⟨_, _⟩ := ha
  obtain ⟨_, _⟩ := hb
  obtain ⟨_, _⟩ := hc
  have e : ∀ n : Int, ¬ n * 2 % 2 = 1 := fun n => by omega
  have n1 : ¬ a < 0 := by omega
  have n2 : ¬ b < 0 := by omega
  have n3 : ¬ c < 0 := by omega
  simp [Sto.act, Sto.fits, Opr.err, Cfg.ok, badFrom, fparts, pbad, Opr.num, Sto.did, Sto.setReg, Sto.reg, Sto.ix, wd, Sto.at_, Sto.push, Sto.car, Sto.cdr, Sto.setCdr, pst, e, n1, n2, n3, *]
theorem ps9 (a b c : Int) (ha : 0 ≤ a ∧ a < 256) (hb : 0 ≤ b ∧ b < 256) (hc : 0 ≤ c ∧ c < 256) : (pst (c * 2) (b * 2) 1 (a * 2) 1 (c * 2) 1 [(a * 2, c * 2)]).act 0 ⟨4, 1, 1, 0⟩ false = (pst (c * 2) (b * 2) 1 (a * 2) 1 (c * 2) 1 [(a * 2, c * 2)], 4) := by
  obtain ⟨_, _⟩ := ha
  obtain ⟨_, _⟩ := hb
  obtain ⟨_, _⟩ := hc
  have e : ∀ n : Int, ¬ n * 2 % 2 = 1 := fun n => by omega
  have n1 : ¬ a < 0 := by omega
  have n2 : ¬ b < 0 := by omega
  have n3 : ¬ c < 0 := by omega
  simp [Sto.act, Sto.fits, Opr.err, Cfg.ok, badFrom, fparts, pbad, Opr.num, Sto.did, Sto.setReg, Sto.reg, Sto.ix, wd, Sto.at_, Sto.push, Sto.car, Sto.cdr, Sto.setCdr, pst, e, n1, n2, n3, *]
theorem ps10 (a b c : Int) (ha : 0 ≤ a ∧ a < 256) (hb : 0 ≤ b ∧ b < 256) (hc : 0 ≤ c ∧ c < 256) : (pst (c * 2) (b * 2) 1 (a * 2) 1 (c * 2) 1 [(a * 2, c * 2)]).act 0 ⟨10, 3, 0, 0⟩ false = (pst (c * 2) (b * 2) 1 (a * 2) 1 (c * 2) 1 [(a * 2, c * 2)], (if a * 2 = c * 2 then 2 else 3)) := by
  obtain ⟨_, _⟩ := ha
  obtain ⟨_, _⟩ := hb
  obtain ⟨_, _⟩ := hc
  have e : ∀ n : Int, ¬ n * 2 % 2 = 1 := fun n => by omega
  have n1 : ¬ a < 0 := by omega
  have n2 : ¬ b < 0 := by omega
  have n3 : ¬ c < 0 := by omega
  simp [Sto.act, Sto.fits, Opr.err, Cfg.ok, badFrom, fparts, pbad, Opr.num, Sto.did, Sto.setReg, Sto.reg, Sto.ix, wd, Sto.at_, Sto.push, Sto.car, Sto.cdr, Sto.setCdr, pst, e, n1, n2, n3, *]
theorem ps11 (a b c : Int) (ha : 0 ≤ a ∧ a < 256) (hb : 0 ≤ b ∧ b < 256) (hc : 0 ≤ c ∧ c < 256) : (pst (c * 2) (b * 2) 1 (a * 2) 1 (c * 2) 1 [(a * 2, c * 2)]).act 1 ⟨11, 0, 0, 0⟩ false = (pst (c * 2) (b * 2) 1 (a * 2) 1 (c * 2) 1 [(a * 2, c * 2)], 3) := by
  obtain ⟨_, _⟩ := ha
  obtain ⟨_, _⟩ := hb
  obtain ⟨_, _⟩ := hc
  have e : ∀ n : Int, ¬ n * 2 % 2 = 1 := fun n => by omega
  have n1 : ¬ a < 0 := by omega
  have n2 : ¬ b < 0 := by omega
  have n3 : ¬ c < 0 := by omega
  simp [Sto.act, Sto.fits, Opr.err, Cfg.ok, badFrom, fparts, pbad, Opr.num, Sto.did, Sto.setReg, Sto.reg, Sto.ix, wd, Sto.at_, Sto.push, Sto.car, Sto.cdr, Sto.setCdr, pst, e, n1, n2, n3, *]
theorem ps12 (a b c : Int) (ha : 0 ≤ a ∧ a < 256) (hb : 0 ≤ b ∧ b < 256) (hc : 0 ≤ c ∧ c < 256) : (pst (c * 2) (b * 2) 1 (a * 2) 1 (c * 2) 1 [(a * 2, c * 2)]).act 1 ⟨11, 1, 0, 0⟩ false = (pst (c * 2) (b * 2) 1 (a * 2) 1 (c * 2) 1 [(a * 2, c * 2)], 2) := by
  obtain ⟨_, _⟩ := ha
  obtain ⟨_, _⟩ := hb
  obtain ⟨_, _⟩ := hc
  have e : ∀ n : Int, ¬ n * 2 % 2 = 1 := fun n => by omega
  have n1 : ¬ a < 0 := by omega
  have n2 : ¬ b < 0 := by omega
  have n3 : ¬ c < 0 := by omega
  simp [Sto.act, Sto.fits, Opr.err, Cfg.ok, badFrom, fparts, pbad, Opr.num, Sto.did, Sto.setReg, Sto.reg, Sto.ix, wd, Sto.at_, Sto.push, Sto.car, Sto.cdr, Sto.setCdr, pst, e, n1, n2, n3, *]

structure PI (w : World) (B b V : Nat) (s : Sto) : Prop where
  cell : w.cell? ⟨V, 0, none⟩ = some (.pointer (some ⟨b, 0, none⟩))
  sto : IsSto w (fun x => B ≤ x ∧ x ≠ V) b s
  lt : V < w.heap.size
  le : B ≤ V
theorem PI.drewN {w : World} {B b V : Nat} {s : Sto} (h : PI w B b V s) (n : Nat) : PI (w.drewN n) B b V s := ⟨h.cell, h.sto.drewN n, h.lt, h.le⟩
theorem pdo_step (w : World) (B b V : Nat) (s s' : Sto) (r m k x y z : Int) (h : PI w B b V s) (hps : s.act m ⟨k, x, y, z⟩ false = (s', r)) (hb : y < 9223372036854775808) (hf : s.cs.length < 1000000) :
    Calls Try.prog 23 #[.int .i64 m, .int .i64 k, .int .i64 x, .int .i64 y, .int .i64 z, .pointer (some ⟨V, 0, none⟩)] w fun e w' => e = .returned (.int .i64 r) ∧ PI w' B b V s' ∧ Below B w w' := by
  refine (pdo_any w _ b V s h.cell h.sto (fun x hx => ⟨by have := h.lt; have := h.le; omega, by have := h.lt; omega⟩) m k x y z hb hf).mono ?_
  rintro e w' ⟨he, hs, hk⟩
  rw [hps] at he hs
  exact ⟨he, ⟨(hk.cell (p := ⟨V, 0, none⟩) h.lt (fun hx => hx.2 rfl)).trans h.cell, hs, Nat.lt_of_lt_of_le h.lt hk.size, h.le⟩, hk.below (by have := h.lt; have := h.le; omega) (fun k hk => hk.1)⟩

set_option maxHeartbeats 4000000 in
set_option maxRecDepth 100000 in
theorem pairs_walk (w : World) (a b c : Int) (ha : 0 ≤ a ∧ a < 256) (hb : 0 ≤ b ∧ b < 256) (hc : 0 ≤ c ∧ c < 256) :
    Calls Try.prog 5 #[.int .u8 a, .int .u8 b, .int .u8 c] w fun e w' => e = .returned (.bool true) ∧ Below w.heap.size w w' := by
  have saa : IntKind.i64.wrap a = a := IntWalk.i64_in _ (by omega)
  have sua : IntKind.u64.wrap a = a := by rw [IntKind.wrap_u64]; omega
  have sma : IntKind.u64.wrap (a * 2) = a * 2 := by rw [IntKind.wrap_u64]; omega
  have sab : IntKind.i64.wrap b = b := IntWalk.i64_in _ (by omega)
  have sub : IntKind.u64.wrap b = b := by rw [IntKind.wrap_u64]; omega
  have smb : IntKind.u64.wrap (b * 2) = b * 2 := by rw [IntKind.wrap_u64]; omega
  have sac : IntKind.i64.wrap c = c := IntWalk.i64_in _ (by omega)
  have suc : IntKind.u64.wrap c = c := by rw [IntKind.wrap_u64]; omega
  have smc : IntKind.u64.wrap (c * 2) = c * 2 := by rw [IntKind.wrap_u64]; omega
  obtain ⟨d, hd⟩ : ∃ d, decide (a = c) = d := ⟨_, rfl⟩
  have q2 : (a == c) = d := by rw [← hd]; rfl
  obtain ⟨q, hq⟩ : ∃ q : Int, (if a * 2 = c * 2 then 2 else 3) = q := ⟨_, rfl⟩
  have q1 : (q == 2) = d := by
    rw [← hq, ← hd]
    by_cases h : a = c
    · rw [if_pos (by omega)]; simp [h]
    · rw [if_neg (by omega)]; simp [h]
  have HQ := Lib.hid hq
  have HA := Lib.hid ha
  have HB := Lib.hid hb
  have HC := Lib.hid hc
  clear hd hq ha hb hc
  go_enter Try.func5, Try.ntmps5
  go_wp2_with fail
  refine (ideal_awake _).mono ?_
  rintro e w0 ⟨rfl, hB⟩
  have HB0 := Lib.hid hB
  clear hB
  go_wp2_with fail
  refine (new_at _ 2 4 1 (by decide)).mono ?_
  rintro e w1 ⟨⟨bb, rfl, hs⟩, hB⟩
  have HB1 : Hid (Below w.heap.size w w1) := HB0.out.trans (hB.mono HB0.out.size)
  have hB1a : Below w.heap.size w (w1.alloc (.cells #[.pointer (some ⟨bb, 0, none⟩)] 50)) := HB1.out.alloc HB1.out.size _
  have hP : PI (w1.alloc (.cells #[.pointer (some ⟨bb, 0, none⟩)] 50)) w0.heap.size bb w1.heap.size (pst 0 0 0 0 0 0 0 []) := by
    obtain ⟨gr, kr, vg, vc, hs⟩ := hs
    have hsz := hB.size
    exact ⟨cell_of_block (heap_alloc_new w1 _) 0, ⟨gr, kr, vg, vc, (hs.alloc _).wide (fun x hx => ⟨hx.1, by have := hx.2; omega⟩)⟩, by simp, hsz⟩
  have HP0 := Lib.hid hP
  have HX0 := Lib.hid hB1a
  have HW := Lib.hid HB0.out.size
  clear hP hB1a hB hs
  go_wp2_with fail
  refine (pdo_step _ w0.heap.size bb w1.heap.size _ _ _ _ _ _ _ _ HP0.out (ps0 a b c HA.out HB.out HC.out) (by have := HA.out; have := HB.out; have := HC.out; omega) (by simp)).mono ?_
  rintro e w2 ⟨rfl, hP, hB⟩
  have HP1 := Lib.hid hP
  have HX1 : Hid (Below w.heap.size w w2) := HX0.out.trans (hB.mono HW.out)
  clear hP hB HP0 HX0
  go_wp2_with fail
  refine (pdo_step _ w0.heap.size bb w1.heap.size _ _ _ _ _ _ _ _ HP1.out (ps1 a b c HA.out HB.out HC.out) (by have := HA.out; have := HB.out; have := HC.out; omega) (by simp)).mono ?_
  rintro e w3 ⟨rfl, hP, hB⟩
  have HP2 := Lib.hid hP
  have HX2 : Hid (Below w.heap.size w w3) := HX1.out.trans (hB.mono HW.out)
  clear hP hB HP1 HX1
  go_wp2_with fail
  refine (pdo_step _ w0.heap.size bb w1.heap.size _ _ _ _ _ _ _ _ HP2.out (ps2 a b c HA.out HB.out HC.out) (by have := HA.out; have := HB.out; have := HC.out; omega) (by simp)).mono ?_
  rintro e w4 ⟨rfl, hP, hB⟩
  have HP3 := Lib.hid hP
  have HX3 : Hid (Below w.heap.size w w4) := HX2.out.trans (hB.mono HW.out)
  clear hP hB HP2 HX2
  go_wp2_with fail
  refine (pdo_step _ w0.heap.size bb w1.heap.size _ _ _ _ _ _ _ _ HP3.out (ps3 a b c HA.out HB.out HC.out) (by have := HA.out; have := HB.out; have := HC.out; omega) (by simp)).mono ?_
  rintro e w5 ⟨rfl, hP, hB⟩
  have HP4 := Lib.hid hP
  have HX4 : Hid (Below w.heap.size w w5) := HX3.out.trans (hB.mono HW.out)
  clear hP hB HP3 HX3
  go_wp2_with fail
  refine (pdo_step _ w0.heap.size bb w1.heap.size _ _ _ _ _ _ _ _ HP4.out (ps4 a b c HA.out HB.out HC.out) (by have := HA.out; have := HB.out; have := HC.out; omega) (by simp)).mono ?_
  rintro e w6 ⟨rfl, hP, hB⟩
  have HP5 := Lib.hid hP
  have HX5 : Hid (Below w.heap.size w w6) := HX4.out.trans (hB.mono HW.out)
  clear hP hB HP4 HX4
  go_wp2_with fail
  refine (pdo_step _ w0.heap.size bb w1.heap.size _ _ _ _ _ _ _ _ HP5.out (ps5 a b c HA.out HB.out HC.out) (by have := HA.out; have := HB.out; have := HC.out; omega) (by simp)).mono ?_
  rintro e w7 ⟨rfl, hP, hB⟩
  have HP6 := Lib.hid hP
  have HX6 : Hid (Below w.heap.size w w7) := HX5.out.trans (hB.mono HW.out)
  clear hP hB HP5 HX5
  go_wp2_with fail
  refine (pdo_step _ w0.heap.size bb w1.heap.size _ _ _ _ _ _ _ _ HP6.out (ps6 a b c HA.out HB.out HC.out) (by have := HA.out; have := HB.out; have := HC.out; omega) (by simp)).mono ?_
  rintro e w8 ⟨rfl, hP, hB⟩
  have HP7 := Lib.hid hP
  have HX7 : Hid (Below w.heap.size w w8) := HX6.out.trans (hB.mono HW.out)
  clear hP hB HP6 HX6
  go_wp2_with fail
  refine (pdo_step _ w0.heap.size bb w1.heap.size _ _ _ _ _ _ _ _ HP7.out (ps7 a b c HA.out HB.out HC.out) (by have := HA.out; have := HB.out; have := HC.out; omega) (by simp)).mono ?_
  rintro e w9 ⟨rfl, hP, hB⟩
  have HP8 := Lib.hid hP
  have HX8 : Hid (Below w.heap.size w w9) := HX7.out.trans (hB.mono HW.out)
  clear hP hB HP7 HX7
  go_wp2_with fail
  refine (pdo_step _ w0.heap.size bb w1.heap.size _ _ _ _ _ _ _ _ HP8.out (ps8 a b c HA.out HB.out HC.out) (by have := HA.out; have := HB.out; have := HC.out; omega) (by simp)).mono ?_
  rintro e w10 ⟨rfl, hP, hB⟩
  have HP9 := Lib.hid hP
  have HX9 : Hid (Below w.heap.size w w10) := HX8.out.trans (hB.mono HW.out)
  clear hP hB HP8 HX8
  go_wp2_with fail
  refine (pdo_step _ w0.heap.size bb w1.heap.size _ _ _ _ _ _ _ _ HP9.out (ps9 a b c HA.out HB.out HC.out) (by have := HA.out; have := HB.out; have := HC.out; omega) (by simp)).mono ?_
  rintro e w11 ⟨rfl, hP, hB⟩
  have HP10 := Lib.hid hP
  have HX10 : Hid (Below w.heap.size w w11) := HX9.out.trans (hB.mono HW.out)
  clear hP hB HP9 HX9
  go_wp2_with fail
  refine (pdo_step _ w0.heap.size bb w1.heap.size _ _ _ _ _ _ _ _ HP10.out (ps10 a b c HA.out HB.out HC.out) (by have := HA.out; have := HB.out; have := HC.out; omega) (by simp)).mono ?_
  rintro e w12 ⟨rfl, hP, hB⟩
  rw [HQ.out]
  have HP11 := Lib.hid hP
  have HX11 : Hid (Below w.heap.size w w12) := HX10.out.trans (hB.mono HW.out)
  clear hP hB HP10 HX10
  have k11 := HP11.out.cell
  go_wp2_with fail
  refine (reg_at _ _ bb _ (HP11.out.sto) 0 3).mono ?_
  rintro e w13 ⟨rfl, n0, rfl⟩
  rw [show (pst (c * 2) (b * 2) 1 (a * 2) 1 (c * 2) 1 [(a * 2, c * 2)]).regAt 0 3 = a * 2 from rfl]
  go_wp2_with fail
  refine (reg_at _ _ bb _ (HP11.out.sto.drewN _) 0 0).mono ?_
  rintro e w13 ⟨rfl, n1, rfl⟩
  rw [show (pst (c * 2) (b * 2) 1 (a * 2) 1 (c * 2) 1 [(a * 2, c * 2)]).regAt 0 0 = c * 2 from rfl]
  go_wp2_with fail
  refine (reg_at _ _ bb _ (HP11.out.sto.drewN _) 0 1).mono ?_
  rintro e w13 ⟨rfl, n2, rfl⟩
  rw [show (pst (c * 2) (b * 2) 1 (a * 2) 1 (c * 2) 1 [(a * 2, c * 2)]).regAt 0 1 = b * 2 from rfl]
  go_wp2_with fail
  refine (pdo_step _ w0.heap.size bb w1.heap.size _ _ _ _ _ _ _ _ (HP11.out.drewN _) (ps11 a b c HA.out HB.out HC.out) (by omega) (by simp)).mono ?_
  rintro e w14 ⟨rfl, hP, hB⟩
  have HP12 := Lib.hid hP
  have HX12 : Hid (Below w.heap.size w w14) := (below_drewN HX11.out _).trans (hB.mono HW.out)
  clear hP hB
  go_wp2_with fail
  refine (pdo_step _ w0.heap.size bb w1.heap.size _ _ _ _ _ _ _ _ HP12.out (ps12 a b c HA.out HB.out HC.out) (by omega) (by simp)).mono ?_
  rintro e w15 ⟨rfl, hP, hB⟩
  have HX13 : Hid (Below w.heap.size w w15) := HX12.out.trans (hB.mono HW.out)
  clear hP hB
  go_wp2_with fail
  go_ret
  exact ⟨rfl, HX13.out⟩
end Go.Proofs.Ytoapbfglpcebmaa
