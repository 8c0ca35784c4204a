/- The contracts of an ideal store's Glob, cell, Car, Cdr. -/
import Derived.Test.YtipoklnoknkfhaaDoorIdealRead
namespace Go.Proofs.YtipoklnoknkfhaaDoor
open Go Go.RowKit
set_option linter.unusedSimpArgs false
set_option linter.unusedVariables false

abbrev zcell : Obj := .cells #[.int .u64 0, .int .u64 0] 113
theorem icell_any (w : World) (T : Nat → Prop) (b : Nat) (s : Sto) (gr kr : Nat) (vg vc : Value) (h : StoAt w T b s gr kr vg vc) (i : Int) :
    Calls Tryd.prog 202 #[.pointer (some ⟨b, 0, none⟩), .int .i64 i] w fun e w' => e = .returned (.agg #[.int .u64 (s.carAt i), .int .u64 (s.cdrAt i)]) ∧ Below w.heap.size w w' := by
  have hb := h.below (w' := w.alloc zcell) ((Below.refl _ _).alloc (Nat.le_refl _) _)
  obtain ⟨k0, k1, k2, k3, k4, k5, k6, kf⟩ := hb.hc
  have hnew := heap_alloc_new w zcell
  obtain ⟨z0, z1⟩ : (w.alloc zcell).cell? ⟨w.heap.size, 0, none⟩ = some (.int .u64 0) ∧ (w.alloc zcell).cell? ⟨w.heap.size, 1, none⟩ = some (.int .u64 0) := ⟨cell_of_block hnew 0, cell_of_block hnew 1⟩
  obtain ⟨y0, y1⟩ : (w.alloc zcell).frozen? ⟨w.heap.size, 0, none⟩ = false ∧ (w.alloc zcell).frozen? ⟨w.heap.size, 1, none⟩ = false := ⟨frozen_of_block hnew 0, frozen_of_block hnew 1⟩
  have hv : ∃ A c, vc = .slice A s.cs.length c := by
    rcases h.cl.2 with ⟨rfl, e⟩ | ⟨g, cap, cur, rfl, _⟩
    · exact ⟨none, 0, by rw [e]⟩
    · exact ⟨_, _, rfl⟩
  obtain ⟨A, c, rfl⟩ := hv
  clear k0 k1 k2 k3 k4 k5 kf hnew
  by_cases h1 : i < 0
  · have d1 : decide (i < 0) = true := by simpa using h1
    have HA : Hid (s.carAt i = 0) := by unfold Hid Sto.carAt; rw [if_neg (by omega)]
    have HD : Hid (s.cdrAt i = 0) := by unfold Hid Sto.cdrAt; rw [if_neg (by omega)]
    rw [HA.out, HD.out]
    clear h1 h hb
    go_enter Tryd.func202, Tryd.ntmps202
    go_wp2_with fail
    exact bodyPost_ret (v := .agg #[.int .u64 0, .int .u64 0]) (by simp [results, Tryd.results202, go_sem, z0, z1]) rfl
      ⟨rfl, by repeat (first | (with_reducible exact Below.refl _ _) | (with_reducible refine Below.alloc ?_ (by simp) _) | refine Below.setCell ?_ (by simp) _)⟩
  have d1 : decide (i < 0) = false := by simpa using h1
  by_cases h2 : (s.cs.length : Int) ≤ i
  · have d2 : decide ((s.cs.length : Int) ≤ i) = true := by simpa using h2
    have HA : Hid (s.carAt i = 0) := by unfold Hid Sto.carAt; rw [if_neg (by omega)]
    have HD : Hid (s.cdrAt i = 0) := by unfold Hid Sto.cdrAt; rw [if_neg (by omega)]
    rw [HA.out, HD.out]
    clear h1 h2 h hb
    go_enter Tryd.func202, Tryd.ntmps202
    go_wp2_with fail
    exact bodyPost_ret (v := .agg #[.int .u64 0, .int .u64 0]) (by simp [results, Tryd.results202, go_sem, z0, z1]) rfl
      ⟨rfl, by repeat (first | (with_reducible exact Below.refl _ _) | (with_reducible refine Below.alloc ?_ (by simp) _) | refine Below.setCell ?_ (by simp) _)⟩
  have d2 : decide ((s.cs.length : Int) ≤ i) = false := by simpa using h2
  have HA : Hid (s.carAt i = s.car i.toNat) := by unfold Hid Sto.carAt; rw [if_pos (by omega)]
  have HD : Hid (s.cdrAt i = s.cdr i.toNat) := by unfold Hid Sto.cdrAt; rw [if_pos (by omega)]
  rw [HA.out, HD.out]
  obtain ⟨gc, kc, hv, c0, c1, _⟩ := hb.ccell (i := i.toNat) (by omega)
  simp at hv
  obtain ⟨rfl, rfl⟩ := hv
  have b1 : 0 ≤ i := by omega
  have b2 : i < (s.cs.length : Int) := by omega
  clear h1 h2 h hb
  go_enter Tryd.func202, Tryd.ntmps202
  go_wp2_with fail
  exact bodyPost_ret (v := .agg #[.int .u64 (s.car i.toNat), .int .u64 (s.cdr i.toNat)]) (by simp [results, Tryd.results202, go_sem, z0, z1]) rfl
    ⟨rfl, by repeat (first | (with_reducible exact Below.refl _ _) | (with_reducible refine Below.alloc ?_ (by simp) _) | refine Below.setCell ?_ (by simp) _)⟩
theorem cell_f0 (w : World) (a b : Int) : (Instr.field 113 (.agg #[.int .u64 a, .int .u64 b]) 0).run Tryd.prog w = .ok (.agg #[.int .u64 a, .int .u64 b]) w := by
  simp [Instr.field, run_underlying Tryd.underlying113, go_sem, part, asAgg]
theorem pair_f0 (w : World) (a b : Int) : (Instr.field 111 (.agg #[.int .u64 a, .int .u64 b]) 0).run Tryd.prog w = .ok (.int .u64 a) w := by
  simp [Instr.field, run_underlying Tryd.underlying111, go_sem, part, asAgg]
theorem pair_f1 (w : World) (a b : Int) : (Instr.field 111 (.agg #[.int .u64 a, .int .u64 b]) 1).run Tryd.prog w = .ok (.int .u64 b) w := by
  simp [Instr.field, run_underlying Tryd.underlying111, go_sem, part, asAgg]
set_option maxRecDepth 100000 in
theorem iCar_any (w : World) (T : Nat → Prop) (b : Nat) (s : Sto) (gr kr : Nat) (vg vc : Value) (h : StoAt w T b s gr kr vg vc) (i : Int) :
    Calls Tryd.prog 200 #[.pointer (some ⟨b, 0, none⟩), .int .i64 i] w fun e w' => e = .returned (.int .u64 (s.carAt i)) ∧ Below w.heap.size w w' := by
  have H := Lib.hid h
  clear h
  obtain ⟨ca, hca⟩ : ∃ ca, s.carAt i = ca := ⟨_, rfl⟩
  obtain ⟨cd, hcd⟩ : ∃ cd, s.cdrAt i = cd := ⟨_, rfl⟩
  first | rw [hca] | rw [hcd]
  have HCA := Lib.hid hca
  have HCD := Lib.hid hcd
  clear hca hcd
  go_enter Tryd.func200, Tryd.ntmps200
  go_wp2_with fail
  refine (icell_any _ T b s gr kr vg vc H.out i).mono ?_
  rintro e w' ⟨rfl, hb⟩
  have HB := Lib.hid hb
  clear hb H
  rw [HCA.out, HCD.out]
  have f0 := cell_f0 w' ca cd
  have f1 := pair_f0 w' ca cd
  have f2 := pair_f1 w' ca cd
  go_wp2_with fail
  go_ret
  exact ⟨rfl, HB.out⟩
set_option maxRecDepth 100000 in
theorem iCdr_any (w : World) (T : Nat → Prop) (b : Nat) (s : Sto) (gr kr : Nat) (vg vc : Value) (h : StoAt w T b s gr kr vg vc) (i : Int) :
    Calls Tryd.prog 201 #[.pointer (some ⟨b, 0, none⟩), .int .i64 i] w fun e w' => e = .returned (.int .u64 (s.cdrAt i)) ∧ Below w.heap.size w w' := by
  have H := Lib.hid h
  clear h
  obtain ⟨ca, hca⟩ : ∃ ca, s.carAt i = ca := ⟨_, rfl⟩
  obtain ⟨cd, hcd⟩ : ∃ cd, s.cdrAt i = cd := ⟨_, rfl⟩
  first | rw [hca] | rw [hcd]
  have HCA := Lib.hid hca
  have HCD := Lib.hid hcd
  clear hca hcd
  go_enter Tryd.func201, Tryd.ntmps201
  go_wp2_with fail
  refine (icell_any _ T b s gr kr vg vc H.out i).mono ?_
  rintro e w' ⟨rfl, hb⟩
  have HB := Lib.hid hb
  clear hb H
  rw [HCA.out, HCD.out]
  have f0 := cell_f0 w' ca cd
  have f1 := pair_f0 w' ca cd
  have f2 := pair_f1 w' ca cd
  go_wp2_with fail
  go_ret
  exact ⟨rfl, HB.out⟩
end Go.Proofs.YtipoklnoknkfhaaDoor
