/- The contracts of an ideal store's Glob, cell, Car, Cdr. -/
import Derived.Test.YtoapbfglpcebmaaIdealRead
namespace Go.Proofs.Ytoapbfglpcebmaa
open Go Go.RowKit
set_option linter.unusedSimpArgs false
set_option linter.unusedVariables false

theorem iGlob_any (w : World) (T : Nat → Prop) (b : Nat) (s : Sto) (gr kr : Nat) (vg vc : Value) (h : StoAt w T b s gr kr vg vc) (g : Int) :
    Calls Try.prog 33 #[.pointer (some ⟨b, 0, none⟩), .int .i64 g] w fun e w' => e = .returned (.int .u64 (s.globAt g)) ∧ w' = w := by
  obtain ⟨k0, k1, k2, k3, k4, k5, k6, kf⟩ := h.hc
  obtain ⟨A, c, rfl, _, _⟩ := h.g.form
  have hgl := h.ok.gl
  obtain ⟨_, _, _, _, _, _, _, _⟩ := s.c.ok_iff.1 h.ok.ok
  clear k0 k1 k2 k3 k4 k6 kf
  by_cases h1 : g < 0
  · have d1 : decide (g < 0) = true := by simpa using h1
    have HA : Hid (s.globAt g = 0) := by unfold Hid Sto.globAt; rw [if_neg (by omega)]
    rw [HA.out]
    clear h1 h hgl
    go_enter Try.func33, Try.ntmps33
    go_wp2_with fail
    go_ret
    exact ⟨rfl, rfl⟩
  have d1 : decide (g < 0) = false := by simpa using h1
  by_cases h2 : (s.gs.length : Int) ≤ g
  · have d2 : decide ((s.gs.length : Int) ≤ g) = true := by simpa using h2
    have HA : Hid (s.globAt g = 0) := by unfold Hid Sto.globAt; rw [if_neg (by omega)]
    rw [HA.out]
    clear h1 h2 h hgl
    go_enter Try.func33, Try.ntmps33
    go_wp2_with fail
    go_ret
    exact ⟨rfl, rfl⟩
  have d2 : decide ((s.gs.length : Int) ≤ g) = false := by simpa using h2
  have HA : Hid (s.globAt g = wd s.gs g.toNat) := by unfold Hid Sto.globAt; rw [if_pos (by omega)]
  rw [HA.out]
  obtain ⟨gg, kg, hv, c0, _⟩ := h.gcell (g := g) (by omega)
  simp at hv
  obtain ⟨rfl, rfl⟩ := hv
  have b1 : 0 ≤ g := by omega
  have b2 : g < (s.gs.length : Int) := by omega
  clear h1 h2 h hgl
  go_enter Try.func33, Try.ntmps33
  go_wp2_with fail
  go_ret
  exact ⟨rfl, rfl⟩

abbrev zcell : Obj := .cells #[.int .u64 0, .int .u64 0] 86
theorem icell_any (w : World) (T : Nat → Prop) (b : Nat) (s : Sto) (gr kr : Nat) (vg vc : Value) (h : StoAt w T b s gr kr vg vc) (i : Int) :
    Calls Try.prog 63 #[.pointer (some ⟨b, 0, none⟩), .int .i64 i] w fun e w' => e = .returned (.agg #[.int .u64 (s.carAt i), .int .u64 (s.cdrAt i)]) ∧ Below w.heap.size w w' := by
  have hb := h.below (w' := w.alloc zcell) ((Below.refl _ _).alloc (Nat.le_refl _) _)
  obtain ⟨k0, k1, k2, k3, k4, k5, k6, kf⟩ := hb.hc
  have hnew := heap_alloc_new w zcell
  obtain ⟨z0, z1⟩ : (w.alloc zcell).cell? ⟨w.heap.size, 0, none⟩ = some (.int .u64 0) ∧ (w.alloc zcell).cell? ⟨w.heap.size, 1, none⟩ = some (.int .u64 0) := ⟨cell_of_block hnew 0, cell_of_block hnew 1⟩
  obtain ⟨y0, y1⟩ : (w.alloc zcell).frozen? ⟨w.heap.size, 0, none⟩ = false ∧ (w.alloc zcell).frozen? ⟨w.heap.size, 1, none⟩ = false := ⟨frozen_of_block hnew 0, frozen_of_block hnew 1⟩
  have hv : ∃ A c, vc = .slice A s.cs.length c := by
    rcases h.cl.2 with ⟨rfl, e⟩ | ⟨g, cap, cur, rfl, _⟩
    · exact ⟨none, 0, by rw [e]⟩
    · exact ⟨_, _, rfl⟩
  obtain ⟨A, c, rfl⟩ := hv
  clear k0 k1 k2 k3 k4 k5 kf hnew
  by_cases h1 : i < 0
  · have d1 : decide (i < 0) = true := by simpa using h1
    have HA : Hid (s.carAt i = 0) := by unfold Hid Sto.carAt; rw [if_neg (by omega)]
    have HD : Hid (s.cdrAt i = 0) := by unfold Hid Sto.cdrAt; rw [if_neg (by omega)]
    rw [HA.out, HD.out]
    clear h1 h hb
    go_enter Try.func63, Try.ntmps63
    go_wp2_with fail
    exact bodyPost_ret (v := .agg #[.int .u64 0, .int .u64 0]) (by simp [results, Try.results63, go_sem, z0, z1]) rfl
      ⟨rfl, by repeat (first | (with_reducible exact Below.refl _ _) | (with_reducible refine Below.alloc ?_ (by simp) _) | refine Below.setCell ?_ (by simp) _)⟩
  have d1 : decide (i < 0) = false := by simpa using h1
  by_cases h2 : (s.cs.length : Int) ≤ i
  · have d2 : decide ((s.cs.length : Int) ≤ i) = true := by simpa using h2
    have HA : Hid (s.carAt i = 0) := by unfold Hid Sto.carAt; rw [if_neg (by omega)]
    have HD : Hid (s.cdrAt i = 0) := by unfold Hid Sto.cdrAt; rw [if_neg (by omega)]
    rw [HA.out, HD.out]
    clear h1 h2 h hb
    go_enter Try.func63, Try.ntmps63
    go_wp2_with fail
    exact bodyPost_ret (v := .agg #[.int .u64 0, .int .u64 0]) (by simp [results, Try.results63, go_sem, z0, z1]) rfl
      ⟨rfl, by repeat (first | (with_reducible exact Below.refl _ _) | (with_reducible refine Below.alloc ?_ (by simp) _) | refine Below.setCell ?_ (by simp) _)⟩
  have d2 : decide ((s.cs.length : Int) ≤ i) = false := by simpa using h2
  have HA : Hid (s.carAt i = s.car i.toNat) := by unfold Hid Sto.carAt; rw [if_pos (by omega)]
  have HD : Hid (s.cdrAt i = s.cdr i.toNat) := by unfold Hid Sto.cdrAt; rw [if_pos (by omega)]
  rw [HA.out, HD.out]
  obtain ⟨gc, kc, hv, c0, c1, _⟩ := hb.ccell (i := i.toNat) (by omega)
  simp at hv
  obtain ⟨rfl, rfl⟩ := hv
  have b1 : 0 ≤ i := by omega
  have b2 : i < (s.cs.length : Int) := by omega
  clear h1 h2 h hb
  go_enter Try.func63, Try.ntmps63
  go_wp2_with fail
  exact bodyPost_ret (v := .agg #[.int .u64 (s.car i.toNat), .int .u64 (s.cdr i.toNat)]) (by simp [results, Try.results63, go_sem, z0, z1]) rfl
    ⟨rfl, by repeat (first | (with_reducible exact Below.refl _ _) | (with_reducible refine Below.alloc ?_ (by simp) _) | refine Below.setCell ?_ (by simp) _)⟩
theorem cell_f0 (w : World) (a b : Int) : (Instr.field 86 (.agg #[.int .u64 a, .int .u64 b]) 0).run Try.prog w = .ok (.agg #[.int .u64 a, .int .u64 b]) w := by
  simp [Instr.field, run_underlying Try.underlying86, go_sem, part, asAgg]
theorem pair_f0 (w : World) (a b : Int) : (Instr.field 84 (.agg #[.int .u64 a, .int .u64 b]) 0).run Try.prog w = .ok (.int .u64 a) w := by
  simp [Instr.field, run_underlying Try.underlying84, go_sem, part, asAgg]
theorem pair_f1 (w : World) (a b : Int) : (Instr.field 84 (.agg #[.int .u64 a, .int .u64 b]) 1).run Try.prog w = .ok (.int .u64 b) w := by
  simp [Instr.field, run_underlying Try.underlying84, go_sem, part, asAgg]
set_option maxRecDepth 100000 in
theorem iCar_any (w : World) (T : Nat → Prop) (b : Nat) (s : Sto) (gr kr : Nat) (vg vc : Value) (h : StoAt w T b s gr kr vg vc) (i : Int) :
    Calls Try.prog 34 #[.pointer (some ⟨b, 0, none⟩), .int .i64 i] w fun e w' => e = .returned (.int .u64 (s.carAt i)) ∧ Below w.heap.size w w' := by
  have H := Lib.hid h
  clear h
  obtain ⟨ca, hca⟩ : ∃ ca, s.carAt i = ca := ⟨_, rfl⟩
  obtain ⟨cd, hcd⟩ : ∃ cd, s.cdrAt i = cd := ⟨_, rfl⟩
  first | rw [hca] | rw [hcd]
  have HCA := Lib.hid hca
  have HCD := Lib.hid hcd
  clear hca hcd
  go_enter Try.func34, Try.ntmps34
  go_wp2_with fail
  refine (icell_any _ T b s gr kr vg vc H.out i).mono ?_
  rintro e w' ⟨rfl, hb⟩
  have HB := Lib.hid hb
  clear hb H
  rw [HCA.out, HCD.out]
  have f0 := cell_f0 w' ca cd
  have f1 := pair_f0 w' ca cd
  have f2 := pair_f1 w' ca cd
  go_wp2_with fail
  go_ret
  exact ⟨rfl, HB.out⟩
set_option maxRecDepth 100000 in
theorem iCdr_any (w : World) (T : Nat → Prop) (b : Nat) (s : Sto) (gr kr : Nat) (vg vc : Value) (h : StoAt w T b s gr kr vg vc) (i : Int) :
    Calls Try.prog 35 #[.pointer (some ⟨b, 0, none⟩), .int .i64 i] w fun e w' => e = .returned (.int .u64 (s.cdrAt i)) ∧ Below w.heap.size w w' := by
  have H := Lib.hid h
  clear h
  obtain ⟨ca, hca⟩ : ∃ ca, s.carAt i = ca := ⟨_, rfl⟩
  obtain ⟨cd, hcd⟩ : ∃ cd, s.cdrAt i = cd := ⟨_, rfl⟩
  first | rw [hca] | rw [hcd]
  have HCA := Lib.hid hca
  have HCD := Lib.hid hcd
  clear hca hcd
  go_enter Try.func35, Try.ntmps35
  go_wp2_with fail
  refine (icell_any _ T b s gr kr vg vc H.out i).mono ?_
  rintro e w' ⟨rfl, hb⟩
  have HB := Lib.hid hb
  clear hb H
  rw [HCA.out, HCD.out]
  have f0 := cell_f0 w' ca cd
  have f1 := pair_f0 w' ca cd
  have f2 := pair_f1 w' ca cd
  go_wp2_with fail
  go_ret
  exact ⟨rfl, HB.out⟩
end Go.Proofs.Ytoapbfglpcebmaa
