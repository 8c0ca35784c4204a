/- The contract of an ideal store's Do, kind by kind (more). The contract of an ideal store's Do, kind by kind (more). The contract of an ideal store's Do, kind by kind (more). The contract of an ideal store's Do, of every operation. -/
import Derived.Test.YtipoklnoknkfhaaDoorIdealDoM
namespace Go.Proofs.YtipoklnoknkfhaaDoor
open Go Go.RowKit
set_option linter.unusedSimpArgs false
set_option linter.unusedVariables false

set_option maxHeartbeats 4000000 in
set_option maxRecDepth 100000 in
theorem ido_10 (w : World) (T : Nat → Prop) (b : Nat) (s : Sto) (gr kr : Nat) (vg vc : Value) (h : StoAt w T b s gr kr vg vc) (m : Int) (x : Opr) (full : Bool)
    (hm : 0 ≤ m ∧ m < s.c.muts) (herr : x.err s.c = 0) (hk : x.kind = 10) (h63 : x.b < 9223372036854775808) :
    Calls Tryd.prog 22 #[.pointer (some ⟨b, 0, none⟩), .int .i64 m, x.v, .bool full] w (DoPost w T b (s.did m x full)) := by
  obtain ⟨_, hr⟩ := right_of_err herr
  have HA : Hid (0 ≤ x.a ∧ x.a < s.c.regs) := hr.a (by omega)
  have HB : Hid (0 ≤ x.b ∧ x.b < s.c.regs) := hr.b (by omega) (by omega) (by omega)
  have HD0 : Hid (s.did m x full = (s, if s.reg m x.a = s.reg m x.b then 2 else 3)) := by unfold Hid Sto.did; rw [if_neg (by omega), if_neg (by omega), if_neg (by omega), if_neg (by omega), if_neg (by omega), if_neg (by omega), if_neg (by omega), if_neg (by omega), if_neg (by omega), if_pos hk]
  rw [HD0.out]
  have hq : (if (s.reg m x.a == s.reg m x.b) = true then (2 : Int) else 3) = (if s.reg m x.a = s.reg m x.b then 2 else 3) := by simp
  generalize (if s.reg m x.a = s.reg m x.b then (2 : Int) else 3) = q at hq ⊢
  have HQ := Lib.hid hq
  clear hq
  have HERR := Lib.hid herr
  have HS := Lib.hid (h.below ((Below.refl _ _).alloc (Nat.le_refl _) x.obj))
  have HLT := Lib.hid h.lt.1
  have HNE : Hid (gr ≠ w.heap.size) := by have := h.lt.2.1; unfold Hid; omega
  have HNB : Hid (b ≠ w.heap.size) := by have := h.lt.1; unfold Hid; omega
  have HKT : Hid (T gr ∧ T b) := ⟨h.tr, h.tb⟩
  obtain ⟨k0, k1, k2, k3, k4, k5, k6, kf⟩ := HS.out.hc
  obtain ⟨x0, x1, x2, x3⟩ := opr_cells (heap_alloc_new w x.obj)
  have d1 : decide (m < 0) = false := by simp; omega
  have d2 : decide (s.c.muts ≤ m) = false := by simp; omega
  have t1 : (x.kind == 1) = false := by rw [beq_eq_false_iff_ne]; omega
  have t2 : (x.kind == 2) = false := by rw [beq_eq_false_iff_ne]; omega
  have t3 : (x.kind == 3) = false := by rw [beq_eq_false_iff_ne]; omega
  have t4 : (x.kind == 4) = false := by rw [beq_eq_false_iff_ne]; omega
  have t5 : (x.kind == 5) = false := by rw [beq_eq_false_iff_ne]; omega
  have t6 : (x.kind == 6) = false := by rw [beq_eq_false_iff_ne]; omega
  have t7 : (x.kind == 7) = false := by rw [beq_eq_false_iff_ne]; omega
  have t8 : (x.kind == 8) = false := by rw [beq_eq_false_iff_ne]; omega
  have t9 : (x.kind == 9) = false := by rw [beq_eq_false_iff_ne]; omega
  have t10 : (x.kind == 10) = true := by rw [beq_iff_eq]; omega
  have HM := Lib.hid hm
  clear k4 k5 k6 kf h herr hr hm hk
  go_enter Tryd.func22, Tryd.ntmps22
  go_wp2_with fail
  go_region_held3 (fun w' => w'.cell? ⟨b, 0, none⟩ = some (.int .i64 s.c.cells) ∧ w'.cell? ⟨b, 1, none⟩ = some (.int .i64 s.c.muts) ∧ w'.cell? ⟨b, 2, none⟩ = some (.int .i64 s.c.regs) ∧ w'.cell? ⟨b, 3, none⟩ = some (.int .i64 s.c.globs) ∧ w'.cell? ⟨w.heap.size, 0, none⟩ = some (.int .i64 x.kind) ∧ w'.cell? ⟨w.heap.size, 1, none⟩ = some (.int .i64 x.a) ∧ w'.cell? ⟨w.heap.size, 2, none⟩ = some (.int .i64 x.b) ∧ w'.cell? ⟨w.heap.size, 3, none⟩ = some (.int .i64 x.c) ∧ Below (w.heap.size + 1) (w.alloc x.obj) w')
    (first
      | exact ⟨k0, k1, k2, k3, x0, x1, x2, x3, (Below.refl _ _).drew⟩
      | (go_split_ands; refine ⟨?_, ?_, ?_, ?_, ?_, ?_, ?_, ?_, ?_⟩ <;> first | (rw [hb2.cell (by first | (simp; done) | (have := HLT.out; simp; omega))]; assumption) | exact Below.trans (by assumption) (hb2.mono (by simp))))
    (first | (go_at_call 50; refine (ocheck_any _ s.c x).mono ?_; rintro e w2 ⟨rfl, hb2⟩; rw [HERR.out]))
  have HB2 : Hid (Below (w.heap.size + 1) (w.alloc x.obj) w2) := ((Below.refl (w.heap.size + 1) (w.alloc x.obj)).drew).trans (hb2.mono (by simp))
  have hS2 : StoAt w2 T b s gr kr vg vc := HS.out.below (by simpa using HB2.out)
  have HX2 : Hid (w2.heap[w.heap.size]? = some x.obj) := (HB2.out.block _ (by omega)).trans (heap_alloc_new w x.obj)
  have HS2 := Lib.hid hS2
  have HZ2 : Hid (w.heap.size < w2.heap.size) := by have := HB2.out.size; simp at this; unfold Hid; omega
  have HLR := Lib.hid hS2.lt
  rename_i hHeld
  clear hHeld hb2 k0 k1 k2 k3 x0 x1 x2 x3 d1 d2 HS
  obtain ⟨x0, x1, x2, x3⟩ := opr_cells HX2.out
  obtain ⟨c0, f0⟩ := hS2.rcell HM.out HA.out
  obtain ⟨c1, f1⟩ := hS2.rcell HM.out HB.out
  clear hS2 f0 f1
  go_wp2_with fail
  go_region_held3 (fun w' => w'.cell? ⟨w.heap.size, 1, none⟩ = some (.int .i64 x.a) ∧ w'.cell? ⟨w.heap.size, 2, none⟩ = some (.int .i64 x.b) ∧ w'.cell? ⟨gr, s.ix m x.a, none⟩ = some (.int .u64 (s.reg m x.a)) ∧ w'.cell? ⟨gr, s.ix m x.b, none⟩ = some (.int .u64 (s.reg m x.b)))
    (first
      | exact ⟨x1, x2, c0, c1⟩)
    (first
      | (go_at_call 52; refine (ireg_any _ T b s gr kr vg _ (by repeat (first | exact HS2.out | apply StoAt.drew | apply StoAt.drewN)) m _ HM.out (by first | exact HA.out | exact HB.out)).mono ?_; rintro e w3 ⟨rfl, n, rfl⟩)
      | (go_at_call 54; refine (iyes_any _ _).mono ?_; rintro e w3 ⟨rfl, rfl⟩; rw [HQ.out]))
  all_goals
    go_wp2_with fail
    go_ret
    exact ⟨rfl, ⟨gr, kr, vg, _, (HS2.out.drewN _).wide (fun _ => Or.inl)⟩, (do_keep HB2.out).drewN _⟩
set_option maxHeartbeats 4000000 in
set_option maxRecDepth 100000 in
theorem ido_11n (w : World) (T : Nat → Prop) (b : Nat) (s : Sto) (gr kr : Nat) (vg vc : Value) (h : StoAt w T b s gr kr vg vc) (m : Int) (x : Opr) (full : Bool)
    (hm : 0 ≤ m ∧ m < s.c.muts) (herr : x.err s.c = 0) (hk : x.kind = 11) (h63 : x.b < 9223372036854775808) (hat : s.at_ (s.reg m x.a) = none) :
    Calls Tryd.prog 22 #[.pointer (some ⟨b, 0, none⟩), .int .i64 m, x.v, .bool full] w (DoPost w T b (s.did m x full)) := by
  obtain ⟨_, hr⟩ := right_of_err herr
  have HA : Hid (0 ≤ x.a ∧ x.a < s.c.regs) := hr.a (by omega)
  have HW : Hid (Wd s.cs.length (s.reg m x.a)) := h.ok.regW hm.1 hm.2 HA.out.1 HA.out.2
  have HAT := Lib.hid hat
  have HD : Hid (s.did m x full = (s, 2)) := by unfold Hid Sto.did; rw [if_neg (by omega), if_neg (by omega), if_neg (by omega), if_neg (by omega), if_neg (by omega), if_neg (by omega), if_neg (by omega), if_neg (by omega), if_neg (by omega), if_neg (by omega), hat]; rfl
  rw [HD.out]
  have HERR := Lib.hid herr
  have HS := Lib.hid (h.below ((Below.refl _ _).alloc (Nat.le_refl _) x.obj))
  have HLT := Lib.hid h.lt.1
  have HNE : Hid (gr ≠ w.heap.size) := by have := h.lt.2.1; unfold Hid; omega
  have HNB : Hid (b ≠ w.heap.size) := by have := h.lt.1; unfold Hid; omega
  have HKT : Hid (T gr ∧ T b) := ⟨h.tr, h.tb⟩
  obtain ⟨k0, k1, k2, k3, k4, k5, k6, kf⟩ := HS.out.hc
  obtain ⟨x0, x1, x2, x3⟩ := opr_cells (heap_alloc_new w x.obj)
  have d1 : decide (m < 0) = false := by simp; omega
  have d2 : decide (s.c.muts ≤ m) = false := by simp; omega
  have t1 : (x.kind == 1) = false := by rw [beq_eq_false_iff_ne]; omega
  have t2 : (x.kind == 2) = false := by rw [beq_eq_false_iff_ne]; omega
  have t3 : (x.kind == 3) = false := by rw [beq_eq_false_iff_ne]; omega
  have t4 : (x.kind == 4) = false := by rw [beq_eq_false_iff_ne]; omega
  have t5 : (x.kind == 5) = false := by rw [beq_eq_false_iff_ne]; omega
  have t6 : (x.kind == 6) = false := by rw [beq_eq_false_iff_ne]; omega
  have t7 : (x.kind == 7) = false := by rw [beq_eq_false_iff_ne]; omega
  have t8 : (x.kind == 8) = false := by rw [beq_eq_false_iff_ne]; omega
  have t9 : (x.kind == 9) = false := by rw [beq_eq_false_iff_ne]; omega
  have t10 : (x.kind == 10) = false := by rw [beq_eq_false_iff_ne]; omega
  have t11 : (x.kind == 11) = true := by rw [beq_iff_eq]; omega
  have HM := Lib.hid hm
  clear hat
  clear k4 k5 k6 kf h herr hr hm hk
  go_enter Tryd.func22, Tryd.ntmps22
  go_wp2_with fail
  go_region_held3 (fun w' => w'.cell? ⟨b, 0, none⟩ = some (.int .i64 s.c.cells) ∧ w'.cell? ⟨b, 1, none⟩ = some (.int .i64 s.c.muts) ∧ w'.cell? ⟨b, 2, none⟩ = some (.int .i64 s.c.regs) ∧ w'.cell? ⟨b, 3, none⟩ = some (.int .i64 s.c.globs) ∧ w'.cell? ⟨w.heap.size, 0, none⟩ = some (.int .i64 x.kind) ∧ w'.cell? ⟨w.heap.size, 1, none⟩ = some (.int .i64 x.a) ∧ w'.cell? ⟨w.heap.size, 2, none⟩ = some (.int .i64 x.b) ∧ w'.cell? ⟨w.heap.size, 3, none⟩ = some (.int .i64 x.c) ∧ Below (w.heap.size + 1) (w.alloc x.obj) w')
    (first
      | exact ⟨k0, k1, k2, k3, x0, x1, x2, x3, (Below.refl _ _).drew⟩
      | (go_split_ands; refine ⟨?_, ?_, ?_, ?_, ?_, ?_, ?_, ?_, ?_⟩ <;> first | (rw [hb2.cell (by first | (simp; done) | (have := HLT.out; simp; omega))]; assumption) | exact Below.trans (by assumption) (hb2.mono (by simp))))
    (first | (go_at_call 50; refine (ocheck_any _ s.c x).mono ?_; rintro e w2 ⟨rfl, hb2⟩; rw [HERR.out]))
  have HB2 : Hid (Below (w.heap.size + 1) (w.alloc x.obj) w2) := ((Below.refl (w.heap.size + 1) (w.alloc x.obj)).drew).trans (hb2.mono (by simp))
  have hS2 : StoAt w2 T b s gr kr vg vc := HS.out.below (by simpa using HB2.out)
  have HX2 : Hid (w2.heap[w.heap.size]? = some x.obj) := (HB2.out.block _ (by omega)).trans (heap_alloc_new w x.obj)
  have HS2 := Lib.hid hS2
  have HZ2 : Hid (w.heap.size < w2.heap.size) := by have := HB2.out.size; simp at this; unfold Hid; omega
  have HLR := Lib.hid hS2.lt
  rename_i hHeld
  clear hHeld hb2 k0 k1 k2 k3 x0 x1 x2 x3 d1 d2 HS
  obtain ⟨x0, x1, x2, x3⟩ := opr_cells HX2.out
  obtain ⟨c0, f0⟩ := hS2.rcell HM.out HA.out
  clear hS2 f0
  go_wp2_with (first
    | (go_at_call 52; refine (ireg_any _ T b s gr kr vg _ (by repeat (first | exact HS2.out | apply StoAt.drew | apply StoAt.drewN)) m _ HM.out (by first | exact HA.out)).mono ?_; rintro e w3 ⟨rfl, n0, rfl⟩)
    | (go_at_call 53; refine (iat_none _ T b s gr kr vg _ (by repeat (first | exact HS2.out | apply StoAt.drew | apply StoAt.drewN)) _ HW.out HAT.out).mono ?_; rintro e w3 ⟨rfl, rfl⟩)
    | (go_at_call 54; refine (iyes_any _ _).mono ?_; rintro e w3 ⟨rfl, rfl⟩))
  go_ret
  exact ⟨rfl, ⟨gr, kr, vg, _, (HS2.out.drewN _).wide (fun _ => Or.inl)⟩, (do_keep HB2.out).drewN _⟩
set_option maxHeartbeats 4000000 in
set_option maxRecDepth 100000 in
theorem ido_11s (w : World) (T : Nat → Prop) (b : Nat) (s : Sto) (gr kr : Nat) (vg vc : Value) (h : StoAt w T b s gr kr vg vc) (m : Int) (x : Opr) (full : Bool)
    (hm : 0 ≤ m ∧ m < s.c.muts) (herr : x.err s.c = 0) (hk : x.kind = 11) (h63 : x.b < 9223372036854775808) (i : Nat) (hat : s.at_ (s.reg m x.a) = some i) :
    Calls Tryd.prog 22 #[.pointer (some ⟨b, 0, none⟩), .int .i64 m, x.v, .bool full] w (DoPost w T b (s.did m x full)) := by
  obtain ⟨_, hr⟩ := right_of_err herr
  have HA : Hid (0 ≤ x.a ∧ x.a < s.c.regs) := hr.a (by omega)
  have HW : Hid (Wd s.cs.length (s.reg m x.a)) := h.ok.regW hm.1 hm.2 HA.out.1 HA.out.2
  have HAT := Lib.hid hat
  have HI : Hid (i < s.cs.length) := at_lt HW.out hat
  have HD : Hid (s.did m x full = (s, 3)) := by unfold Hid Sto.did; rw [if_neg (by omega), if_neg (by omega), if_neg (by omega), if_neg (by omega), if_neg (by omega), if_neg (by omega), if_neg (by omega), if_neg (by omega), if_neg (by omega), if_neg (by omega), hat]; rfl
  rw [HD.out]
  have HERR := Lib.hid herr
  have HS := Lib.hid (h.below ((Below.refl _ _).alloc (Nat.le_refl _) x.obj))
  have HLT := Lib.hid h.lt.1
  have HNE : Hid (gr ≠ w.heap.size) := by have := h.lt.2.1; unfold Hid; omega
  have HNB : Hid (b ≠ w.heap.size) := by have := h.lt.1; unfold Hid; omega
  have HKT : Hid (T gr ∧ T b) := ⟨h.tr, h.tb⟩
  obtain ⟨k0, k1, k2, k3, k4, k5, k6, kf⟩ := HS.out.hc
  obtain ⟨x0, x1, x2, x3⟩ := opr_cells (heap_alloc_new w x.obj)
  have d1 : decide (m < 0) = false := by simp; omega
  have d2 : decide (s.c.muts ≤ m) = false := by simp; omega
  have t1 : (x.kind == 1) = false := by rw [beq_eq_false_iff_ne]; omega
  have t2 : (x.kind == 2) = false := by rw [beq_eq_false_iff_ne]; omega
  have t3 : (x.kind == 3) = false := by rw [beq_eq_false_iff_ne]; omega
  have t4 : (x.kind == 4) = false := by rw [beq_eq_false_iff_ne]; omega
  have t5 : (x.kind == 5) = false := by rw [beq_eq_false_iff_ne]; omega
  have t6 : (x.kind == 6) = false := by rw [beq_eq_false_iff_ne]; omega
  have t7 : (x.kind == 7) = false := by rw [beq_eq_false_iff_ne]; omega
  have t8 : (x.kind == 8) = false := by rw [beq_eq_false_iff_ne]; omega
  have t9 : (x.kind == 9) = false := by rw [beq_eq_false_iff_ne]; omega
  have t10 : (x.kind == 10) = false := by rw [beq_eq_false_iff_ne]; omega
  have t11 : (x.kind == 11) = true := by rw [beq_iff_eq]; omega
  have HM := Lib.hid hm
  clear hat
  clear k4 k5 k6 kf h herr hr hm hk
  go_enter Tryd.func22, Tryd.ntmps22
  go_wp2_with fail
  go_region_held3 (fun w' => w'.cell? ⟨b, 0, none⟩ = some (.int .i64 s.c.cells) ∧ w'.cell? ⟨b, 1, none⟩ = some (.int .i64 s.c.muts) ∧ w'.cell? ⟨b, 2, none⟩ = some (.int .i64 s.c.regs) ∧ w'.cell? ⟨b, 3, none⟩ = some (.int .i64 s.c.globs) ∧ w'.cell? ⟨w.heap.size, 0, none⟩ = some (.int .i64 x.kind) ∧ w'.cell? ⟨w.heap.size, 1, none⟩ = some (.int .i64 x.a) ∧ w'.cell? ⟨w.heap.size, 2, none⟩ = some (.int .i64 x.b) ∧ w'.cell? ⟨w.heap.size, 3, none⟩ = some (.int .i64 x.c) ∧ Below (w.heap.size + 1) (w.alloc x.obj) w')
    (first
      | exact ⟨k0, k1, k2, k3, x0, x1, x2, x3, (Below.refl _ _).drew⟩
      | (go_split_ands; refine ⟨?_, ?_, ?_, ?_, ?_, ?_, ?_, ?_, ?_⟩ <;> first | (rw [hb2.cell (by first | (simp; done) | (have := HLT.out; simp; omega))]; assumption) | exact Below.trans (by assumption) (hb2.mono (by simp))))
    (first | (go_at_call 50; refine (ocheck_any _ s.c x).mono ?_; rintro e w2 ⟨rfl, hb2⟩; rw [HERR.out]))
  have HB2 : Hid (Below (w.heap.size + 1) (w.alloc x.obj) w2) := ((Below.refl (w.heap.size + 1) (w.alloc x.obj)).drew).trans (hb2.mono (by simp))
  have hS2 : StoAt w2 T b s gr kr vg vc := HS.out.below (by simpa using HB2.out)
  have HX2 : Hid (w2.heap[w.heap.size]? = some x.obj) := (HB2.out.block _ (by omega)).trans (heap_alloc_new w x.obj)
  have HS2 := Lib.hid hS2
  have HZ2 : Hid (w.heap.size < w2.heap.size) := by have := HB2.out.size; simp at this; unfold Hid; omega
  have HLR := Lib.hid hS2.lt
  rename_i hHeld
  clear hHeld hb2 k0 k1 k2 k3 x0 x1 x2 x3 d1 d2 HS
  obtain ⟨x0, x1, x2, x3⟩ := opr_cells HX2.out
  obtain ⟨c0, f0⟩ := hS2.rcell HM.out HA.out
  obtain ⟨gc, kc, rfl, _⟩ := hS2.ccell HI.out
  clear hS2 f0
  go_wp2_with (first
    | (go_at_call 52; refine (ireg_any _ T b s gr kr vg _ (by repeat (first | exact HS2.out | apply StoAt.drew | apply StoAt.drewN)) m _ HM.out (by first | exact HA.out)).mono ?_; rintro e w3 ⟨rfl, n0, rfl⟩)
    | (go_at_call 53; refine (iat_some _ T b s gr kr vg gc kc (by repeat (first | exact HS2.out | apply StoAt.drew | apply StoAt.drewN)) _ HW.out i HAT.out).mono ?_; rintro e w3 ⟨rfl, rfl⟩)
    | (go_at_call 54; refine (iyes_any _ _).mono ?_; rintro e w3 ⟨rfl, rfl⟩))
  go_ret
  exact ⟨rfl, ⟨gr, kr, vg, _, (HS2.out.drewN _).wide (fun _ => Or.inl)⟩, (do_keep HB2.out).drewN _⟩
end Go.Proofs.YtipoklnoknkfhaaDoor
namespace Go.Proofs.YtipoklnoknkfhaaDoor
open Go Go.RowKit
set_option linter.unusedSimpArgs false
set_option linter.unusedVariables false

set_option maxHeartbeats 4000000 in
set_option maxRecDepth 100000 in
theorem ido_3f (w : World) (T : Nat → Prop) (b : Nat) (s : Sto) (gr kr : Nat) (vg vc : Value) (h : StoAt w T b s gr kr vg vc) (m : Int) (x : Opr) (full : Bool)
    (hm : 0 ≤ m ∧ m < s.c.muts) (herr : x.err s.c = 0) (hk : x.kind = 3) (h63 : x.b < 9223372036854775808) (hf : full = true) :
    Calls Tryd.prog 22 #[.pointer (some ⟨b, 0, none⟩), .int .i64 m, x.v, .bool full] w (DoPost w T b (s.did m x full)) := by
  obtain ⟨_, hr⟩ := right_of_err herr
  subst hf
  have HD : Hid (s.did m x true = (s, 5)) := by unfold Hid Sto.did; rw [if_neg (by omega), if_neg (by omega), if_pos hk, if_pos rfl]
  rw [HD.out]
  have HERR := Lib.hid herr
  have HS := Lib.hid (h.below ((Below.refl _ _).alloc (Nat.le_refl _) x.obj))
  have HLT := Lib.hid h.lt.1
  have HNE : Hid (gr ≠ w.heap.size) := by have := h.lt.2.1; unfold Hid; omega
  have HNB : Hid (b ≠ w.heap.size) := by have := h.lt.1; unfold Hid; omega
  have HKT : Hid (T gr ∧ T b) := ⟨h.tr, h.tb⟩
  obtain ⟨k0, k1, k2, k3, k4, k5, k6, kf⟩ := HS.out.hc
  obtain ⟨x0, x1, x2, x3⟩ := opr_cells (heap_alloc_new w x.obj)
  have d1 : decide (m < 0) = false := by simp; omega
  have d2 : decide (s.c.muts ≤ m) = false := by simp; omega
  have t1 : (x.kind == 1) = false := by rw [beq_eq_false_iff_ne]; omega
  have t2 : (x.kind == 2) = false := by rw [beq_eq_false_iff_ne]; omega
  have t3 : (x.kind == 3) = true := by rw [beq_iff_eq]; omega
  have HM := Lib.hid hm
  clear k4 k5 k6 kf h herr hr hm hk
  go_enter Tryd.func22, Tryd.ntmps22
  go_wp2_with fail
  go_region_held3 (fun w' => w'.cell? ⟨b, 0, none⟩ = some (.int .i64 s.c.cells) ∧ w'.cell? ⟨b, 1, none⟩ = some (.int .i64 s.c.muts) ∧ w'.cell? ⟨b, 2, none⟩ = some (.int .i64 s.c.regs) ∧ w'.cell? ⟨b, 3, none⟩ = some (.int .i64 s.c.globs) ∧ w'.cell? ⟨w.heap.size, 0, none⟩ = some (.int .i64 x.kind) ∧ w'.cell? ⟨w.heap.size, 1, none⟩ = some (.int .i64 x.a) ∧ w'.cell? ⟨w.heap.size, 2, none⟩ = some (.int .i64 x.b) ∧ w'.cell? ⟨w.heap.size, 3, none⟩ = some (.int .i64 x.c) ∧ Below (w.heap.size + 1) (w.alloc x.obj) w')
    (first
      | exact ⟨k0, k1, k2, k3, x0, x1, x2, x3, (Below.refl _ _).drew⟩
      | (go_split_ands; refine ⟨?_, ?_, ?_, ?_, ?_, ?_, ?_, ?_, ?_⟩ <;> first | (rw [hb2.cell (by first | (simp; done) | (have := HLT.out; simp; omega))]; assumption) | exact Below.trans (by assumption) (hb2.mono (by simp))))
    (first | (go_at_call 50; refine (ocheck_any _ s.c x).mono ?_; rintro e w2 ⟨rfl, hb2⟩; rw [HERR.out]))
  have HB2 : Hid (Below (w.heap.size + 1) (w.alloc x.obj) w2) := ((Below.refl (w.heap.size + 1) (w.alloc x.obj)).drew).trans (hb2.mono (by simp))
  have hS2 : StoAt w2 T b s gr kr vg vc := HS.out.below (by simpa using HB2.out)
  have HX2 : Hid (w2.heap[w.heap.size]? = some x.obj) := (HB2.out.block _ (by omega)).trans (heap_alloc_new w x.obj)
  have HS2 := Lib.hid hS2
  have HZ2 : Hid (w.heap.size < w2.heap.size) := by have := HB2.out.size; simp at this; unfold Hid; omega
  have HLR := Lib.hid hS2.lt
  rename_i hHeld
  clear hHeld hb2 k0 k1 k2 k3 x0 x1 x2 x3 d1 d2 HS
  obtain ⟨x0, x1, x2, x3⟩ := opr_cells HX2.out
  clear hS2
  go_wp2_with fail
  go_ret
  exact ⟨rfl, ⟨gr, kr, vg, _, (HS2.out.drewN 0).wide (fun _ => Or.inl)⟩, (do_keep HB2.out).drewN 0⟩
theorem StoAt.pushed {W w' : World} {T : Nat → Prop} {b : Nat} {s : Sto} {gr kr : Nat} {vg vc v' : Value} (h : StoAt W T b s gr kr vg vc) {p : Int × Int} (hp : Wd s.cs.length p.1 ∧ Wd s.cs.length p.2) (hf : s.cs.length < 1000000)
    (h1 : w'.ownsRow 0 113 2 v' (s.cs.length + 1) (flat s.cs ++ [.int .u64 p.1, .int .u64 p.2])) (hg : W.grownBy w' vc.ownBlock) (hv : v'.ownBlock = vc.ownBlock ∨ v'.ownBlock = some W.heap.size) :
    StoAt (w'.setCell ⟨b, 6, none⟩ v') (fun x => T x ∨ (W.heap.size ≤ x ∧ x < w'.heap.size)) b (s.push p) gr kr vg v' := by
  have hk : Keep (fun g => vc.ownBlock = some g) W w' := Keep.of_grown hg (fun _ h => h)
  obtain ⟨hlb, hlr, hlg, hlc⟩ := h.lt
  have nb : v'.ownBlock ≠ some b := by
    rcases hv with e | e <;> rw [e]
    · exact h.bc
    · intro e1; simp at e1; omega
  have nr : v'.ownBlock ≠ some gr := by
    rcases hv with e | e <;> rw [e]
    · exact h.rc
    · intro e1; simp at e1; omega
  have ng : ∀ x, vg.ownBlock = some x → v'.ownBlock ≠ some x := by
    intro x hx
    have := hlg x hx
    rcases hv with e | e <;> rw [e]
    · exact h.gc x hx
    · intro e1; simp at e1; omega
  have hr' := ownsRow_keep h.r hk (fun g hg => by simp [Value.ownBlock] at hg; subst hg; exact h.rc)
  have hg' := ownsRow_keep h.g hk (fun g hg => h.gc g hg)
  have hh' := hk.at_ h.head h.bc
  exact {
    head := by
      rw [block_setCell hh' 6 v']
      simp [Sto.push]
    r := ownsRow_setCell_other hr' (fun e => h.br (by simpa [Value.ownBlock] using e)) _
    g := ownsRow_setCell_other hg' (fun e => h.bg (by simpa using e)) _
    cl := by
      have e : flat (s.push p).cs = flat s.cs ++ [.int .u64 p.1, .int .u64 p.2] := by
        simp [Sto.push, flat_append, flat]
      rw [e, show (s.push p).cs.length = s.cs.length + 1 by simp [Sto.push]]
      exact ownsRow_setCell_other h1 (fun e => nb (by simpa using e)) _
    tb := Or.inl h.tb
    tr := Or.inl h.tr
    tg := fun x hx => Or.inl (h.tg x hx)
    tc := fun x hx => by
      rcases hv with e | e
      · exact Or.inl (h.tc x (by rw [← e]; exact hx))
      · rw [e] at hx
        simp at hx
        subst hx
        exact Or.inr ⟨Nat.le_refl _, (h1.lt _ e).2⟩
    br := h.br
    bg := h.bg
    bc := nb
    rg := h.rg
    rc := nr
    gc := ng
    ok := h.ok.push hp hf }
theorem info_cell : (Tryd.prog.info? 113).map (fun i => (i.zero, i.size, i.bytes)) = some (some (.agg #[.int .u64 0, .int .u64 0]), 2, 16) := by kernel_rfl
theorem StoAt.alloc {w : World} {T : Nat → Prop} {b : Nat} {s : Sto} {gr kr : Nat} {vg vc : Value} (h : StoAt w T b s gr kr vg vc) (o : Obj) : StoAt (w.alloc o) T b s gr kr vg vc := h.keep ((Keep.refl (fun _ => False) w).alloc o) (fun _ _ => id)
theorem reads_pair (W : World) (E : TypeId) (a c : Value) : Reads (W.alloc (.cells #[a, c] E)) (W.heap.size + 1) 2 (some ⟨W.heap.size, 0, none⟩) 1 [a, c] := by
  refine ⟨rfl, fun _ => ⟨_, rfl, by simp, fun j u hu => ?_⟩⟩
  have hj : j < 2 := by
    have := (List.getElem?_eq_some_iff.1 hu).1
    simpa using this
  have e : (⟨W.heap.size, 0, none⟩ : Addr).add j = ⟨W.heap.size, j, none⟩ := by unfold Addr.add; split <;> simp_all
  rw [e, cell_of_block (heap_alloc_new W (.cells #[a, c] E))]
  obtain rfl | rfl : j = 0 ∨ j = 1 := by omega
  · simpa using hu
  · simpa using hu
theorem step_append_cell {ops : Array Oper} {o : Oper} {a : Act} {K : Act → World → Prop} {Q : Exit → Act → World → Prop} {E : Prop} {T : Nat → Prop} {b : Nat} {s : Sto} {gr kr : Nat} {vg vc : Value} (hgd : o.guard = none) (sl x : Operand)
    (ho : o.op = .call { callee := .builtin .append, args := #[sl, x], argTypes := #[99, 99] }) (W0 : World) (hst : StoAt W0 T b s gr kr vg vc) (a1 a2 : Int) (hp : Wd s.cs.length a1 ∧ Wd s.cs.length a2) (hf : s.cs.length < 1000000)
    (hs : a.eval sl = vc) (hx : a.eval x = .slice (some ⟨W0.heap.size, 0, none⟩) 1 1)
    (h : ∀ (g cap : Nat) (w' : World), (∀ p : Addr, p.block < W0.heap.size → vc.ownBlock ≠ some p.block → w'.cell? p = W0.cell? p) → w'.cell? ⟨b, 6, none⟩ = some vc → w'.frozen? ⟨b, 6, none⟩ = false → Hid (W0.heap.size ≤ w'.heap.size ∧ Keep T W0 w') →
      Hid (StoAt (w'.setCell ⟨b, 6, none⟩ (.slice (some ⟨g, 0, none⟩) (s.cs.length + 1) cap)) (fun x => T x ∨ (W0.heap.size ≤ x ∧ x < w'.heap.size)) b (s.push (a1, a2)) gr kr vg (.slice (some ⟨g, 0, none⟩) (s.cs.length + 1) cap)) → K (a.put o.dst (.slice (some ⟨g, 0, none⟩) (s.cs.length + 1) cap)) w') :
    if Region.wanted o (yielded ops a.tmps) = true then Oper.wp Tryd.prog o a (W0.alloc (.cells #[.int .u64 a1, .int .u64 a2] 113)) K Q else E := by
  have hi : ∃ i, Tryd.prog.info? 113 = some i ∧ i.zero = some (.agg #[.int .u64 0, .int .u64 0]) ∧ i.size = 2 ∧ i.bytes = 16 := by
    have := info_cell
    cases hh : Tryd.prog.info? 113 with
    | none => rw [hh] at this; cases this
    | some i =>
      rw [hh] at this
      simp at this
      exact ⟨i, rfl, this⟩
  obtain ⟨i0, hi0, hz0, hz1, hz2⟩ := hi
  have hS1 := hst.alloc (.cells #[.int .u64 a1, .int .u64 a2] 113)
  refine step_append_any (P := Tryd.prog) _ hgd sl x _ ho 0 113 i0 _ 2 16 Tryd.underlying99 hi0 hz0 hz1 hz2 rfl (by omega) vc s.cs.length (flat s.cs) hs hS1.cl _ _ 1 1 _ hx (reads_pair _ _ _ _) (by intro u hu; simp at hu; rcases hu with rfl | rfl <;> rfl) (by unfold maxLen; omega) (by omega) (Nat.zero_le _) ?_
  intro v' w' h1 hg hv
  obtain ⟨g, cap, rfl, _, _⟩ := h1.form (by omega)
  have hk : Keep (fun g => vc.ownBlock = some g) (W0.alloc (.cells #[.int .u64 a1, .int .u64 a2] 113)) w' := Keep.of_grown hg (fun _ h => h)
  have hlt := hst.lt
  have hsz : W0.heap.size ≤ w'.heap.size := Nat.le_trans (by simp) hk.size
  refine h g cap w' (fun p hp hn => (hk.cell (by simp; omega) hn).trans (World.cell?_alloc_lt _ _ _ hp)) ((hk.cell (p := ⟨b, 6, none⟩) (by simp; omega) hst.bc).trans hS1.hc.2.2.2.2.2.2.1) ((hk.frozen (p := ⟨b, 6, none⟩) (by simp; omega) hst.bc).trans hS1.hc.2.2.2.2.2.2.2) ⟨hsz, ?_⟩ ?_
  · exact ((Keep.refl T W0).alloc _).trans (hk.mono (fun k _ hk' => hst.tc k hk'))
  · exact (StoAt.pushed hS1 (p := (a1, a2)) hp hf h1 hg hv).wide (fun x hx => by
      rcases hx with hx | hx
      · exact Or.inl hx
      · exact Or.inr ⟨by have := hx.1; simp at this; omega, hx.2⟩)
end Go.Proofs.YtipoklnoknkfhaaDoor
namespace Go.Proofs.YtipoklnoknkfhaaDoor
open Go Go.RowKit
set_option linter.unusedSimpArgs false
set_option linter.unusedVariables false

set_option maxHeartbeats 4000000 in
set_option maxRecDepth 100000 in
theorem ido_3 (w : World) (T : Nat → Prop) (b : Nat) (s : Sto) (gr kr : Nat) (vg vc : Value) (h : StoAt w T b s gr kr vg vc) (m : Int) (x : Opr) (full : Bool)
    (hm : 0 ≤ m ∧ m < s.c.muts) (herr : x.err s.c = 0) (hk : x.kind = 3) (h63 : x.b < 9223372036854775808) (hfew : s.cs.length < 1000000) (hf : full = false) :
    Calls Tryd.prog 22 #[.pointer (some ⟨b, 0, none⟩), .int .i64 m, x.v, .bool full] w (DoPost w T b (s.did m x full)) := by
  obtain ⟨_, hr⟩ := right_of_err herr
  subst hf
  have HA : Hid (0 ≤ x.a ∧ x.a < s.c.regs) := hr.a (by omega)
  have HB : Hid (0 ≤ x.b ∧ x.b < s.c.regs) := hr.b (by omega) (by omega) (by omega)
  have HC : Hid (0 ≤ x.c ∧ x.c < s.c.regs) := hr.cc hk
  have HW : Hid (Wd s.cs.length (s.reg m x.b) ∧ Wd s.cs.length (s.reg m x.c)) := ⟨h.ok.regW hm.1 hm.2 HB.out.1 HB.out.2, h.ok.regW hm.1 hm.2 HC.out.1 HC.out.2⟩
  have HV : Hid (Wd (s.cs.length + 1) (s.cs.length * 2 + 1)) := ⟨by omega, by omega, fun _ => by omega⟩
  have HVN : Hid (vc.ownBlock ≠ some w.heap.size) := fun e => by have := h.lt.2.2.2 _ e; omega
  have HD : Hid (s.did m x false = ((s.push (s.reg m x.b, s.reg m x.c)).setReg m x.a (s.cs.length * 2 + 1), 1)) := by unfold Hid Sto.did; rw [if_neg (by omega), if_neg (by omega), if_pos hk]; rfl
  rw [HD.out]
  have HERR := Lib.hid herr
  have HS := Lib.hid (h.below ((Below.refl _ _).alloc (Nat.le_refl _) x.obj))
  have HLT := Lib.hid h.lt.1
  have HNE : Hid (gr ≠ w.heap.size) := by have := h.lt.2.1; unfold Hid; omega
  have HNB : Hid (b ≠ w.heap.size) := by have := h.lt.1; unfold Hid; omega
  have HKT : Hid (T gr ∧ T b) := ⟨h.tr, h.tb⟩
  obtain ⟨k0, k1, k2, k3, k4, k5, k6, kf⟩ := HS.out.hc
  obtain ⟨x0, x1, x2, x3⟩ := opr_cells (heap_alloc_new w x.obj)
  have d1 : decide (m < 0) = false := by simp; omega
  have d2 : decide (s.c.muts ≤ m) = false := by simp; omega
  have t1 : (x.kind == 1) = false := by rw [beq_eq_false_iff_ne]; omega
  have t2 : (x.kind == 2) = false := by rw [beq_eq_false_iff_ne]; omega
  have t3 : (x.kind == 3) = true := by rw [beq_iff_eq]; omega
  have HM := Lib.hid hm
  clear k4 k5 k6 kf h herr hr hm hk
  go_enter Tryd.func22, Tryd.ntmps22
  go_wp2_with fail
  go_region_held3 (fun w' => w'.cell? ⟨b, 0, none⟩ = some (.int .i64 s.c.cells) ∧ w'.cell? ⟨b, 1, none⟩ = some (.int .i64 s.c.muts) ∧ w'.cell? ⟨b, 2, none⟩ = some (.int .i64 s.c.regs) ∧ w'.cell? ⟨b, 3, none⟩ = some (.int .i64 s.c.globs) ∧ w'.cell? ⟨w.heap.size, 0, none⟩ = some (.int .i64 x.kind) ∧ w'.cell? ⟨w.heap.size, 1, none⟩ = some (.int .i64 x.a) ∧ w'.cell? ⟨w.heap.size, 2, none⟩ = some (.int .i64 x.b) ∧ w'.cell? ⟨w.heap.size, 3, none⟩ = some (.int .i64 x.c) ∧ Below (w.heap.size + 1) (w.alloc x.obj) w')
    (first
      | exact ⟨k0, k1, k2, k3, x0, x1, x2, x3, (Below.refl _ _).drew⟩
      | (go_split_ands; refine ⟨?_, ?_, ?_, ?_, ?_, ?_, ?_, ?_, ?_⟩ <;> first | (rw [hb2.cell (by first | (simp; done) | (have := HLT.out; simp; omega))]; assumption) | exact Below.trans (by assumption) (hb2.mono (by simp))))
    (first | (go_at_call 50; refine (ocheck_any _ s.c x).mono ?_; rintro e w2 ⟨rfl, hb2⟩; rw [HERR.out]))
  have HB2 : Hid (Below (w.heap.size + 1) (w.alloc x.obj) w2) := ((Below.refl (w.heap.size + 1) (w.alloc x.obj)).drew).trans (hb2.mono (by simp))
  have hS2 : StoAt w2 T b s gr kr vg vc := HS.out.below (by simpa using HB2.out)
  have HX2 : Hid (w2.heap[w.heap.size]? = some x.obj) := (HB2.out.block _ (by omega)).trans (heap_alloc_new w x.obj)
  have HS2 := Lib.hid hS2
  have HZ2 : Hid (w.heap.size < w2.heap.size) := by have := HB2.out.size; simp at this; unfold Hid; omega
  have HLR := Lib.hid hS2.lt
  rename_i hHeld
  clear hHeld hb2 k0 k1 k2 k3 x0 x1 x2 x3 d1 d2 HS
  obtain ⟨x0, x1, x2, x3⟩ := opr_cells HX2.out
  obtain ⟨c1, f1⟩ := hS2.rcell HM.out HB.out
  obtain ⟨c2, f2⟩ := hS2.rcell HM.out HC.out
  obtain ⟨c0, f0⟩ := hS2.rcell HM.out HA.out
  obtain ⟨_, _, _, _, _, _, k6, _⟩ := hS2.hc
  have HBR : Hid (b ≠ gr) := fun e => hS2.br e.symm
  have D1 : ∀ n, (w2.drewN n).cell? ⟨w.heap.size, 1, none⟩ = some (.int .i64 x.a) := fun _ => x1
  have D2 : ∀ n, (w2.drewN n).cell? ⟨w.heap.size, 2, none⟩ = some (.int .i64 x.b) := fun _ => x2
  have D3 : ∀ n, (w2.drewN n).cell? ⟨w.heap.size, 3, none⟩ = some (.int .i64 x.c) := fun _ => x3
  have D4 : ∀ n, (w2.drewN n).cell? ⟨gr, s.ix m x.b, none⟩ = some (.int .u64 (s.reg m x.b)) := fun _ => c1
  have D5 : ∀ n, (w2.drewN n).cell? ⟨gr, s.ix m x.c, none⟩ = some (.int .u64 (s.reg m x.c)) := fun _ => c2
  have ZN := Lib.hid (fun n => (show w.heap.size < (w2.drewN n).heap.size from HZ2.out))
  have GN := Lib.hid (fun n => (show gr < (w2.drewN n).heap.size from HLR.out.2.1))
  have DD := Lib.hid (And.intro D1 (And.intro D2 (And.intro D3 (And.intro D4 D5))))
  have K6 : ∀ n o, ((w2.drewN n).alloc o).cell? ⟨b, 6, none⟩ = some vc := fun n o => (World.cell?_alloc_lt _ _ _ (show b < w2.heap.size from HLR.out.1)).trans k6
  have DDA : Hid (∀ n, ((w2.drewN n).alloc (.cells #[.int .u64 (s.reg m x.b), .int .u64 (s.reg m x.c)] 113)).cell? ⟨w.heap.size, 1, none⟩ = some (.int .i64 x.a) ∧ ((w2.drewN n).alloc (.cells #[.int .u64 (s.reg m x.b), .int .u64 (s.reg m x.c)] 113)).cell? ⟨w.heap.size, 2, none⟩ = some (.int .i64 x.b) ∧ ((w2.drewN n).alloc (.cells #[.int .u64 (s.reg m x.b), .int .u64 (s.reg m x.c)] 113)).cell? ⟨w.heap.size, 3, none⟩ = some (.int .i64 x.c) ∧ ((w2.drewN n).alloc (.cells #[.int .u64 (s.reg m x.b), .int .u64 (s.reg m x.c)] 113)).cell? ⟨gr, s.ix m x.b, none⟩ = some (.int .u64 (s.reg m x.b)) ∧ ((w2.drewN n).alloc (.cells #[.int .u64 (s.reg m x.b), .int .u64 (s.reg m x.c)] 113)).cell? ⟨gr, s.ix m x.c, none⟩ = some (.int .u64 (s.reg m x.c))) := fun n => ⟨(World.cell?_alloc_lt _ _ _ (ZN.out n)).trans x1, (World.cell?_alloc_lt _ _ _ (ZN.out n)).trans x2, (World.cell?_alloc_lt _ _ _ (ZN.out n)).trans x3, (World.cell?_alloc_lt _ _ _ (GN.out n)).trans c1, (World.cell?_alloc_lt _ _ _ (GN.out n)).trans c2⟩
  have SN := Lib.hid (fun n => HS2.out.drewN n)
  clear hS2 f1 f2 f0 D1 D2 D3 D4 D5
  go_wp2_with fail
  refine wp_region_held_drew (S := (fun w' => w'.cell? ⟨w.heap.size, 1, none⟩ = some (.int .i64 x.a) ∧ w'.cell? ⟨w.heap.size, 2, none⟩ = some (.int .i64 x.b) ∧ w'.cell? ⟨w.heap.size, 3, none⟩ = some (.int .i64 x.c) ∧ w'.cell? ⟨gr, s.ix m x.b, none⟩ = some (.int .u64 (s.reg m x.b)) ∧ w'.cell? ⟨gr, s.ix m x.c, none⟩ = some (.int .u64 (s.reg m x.c)))) (by kernel_rfl) ?_ (fun hHeld => ?_)
  · exact ⟨x1, x2, x3, c1, c2⟩
  refine (fun (tail : ∀ N : Nat, (?Tail : Nat → Prop) N) => ?main) ?tl
  case main =>
    refine wpAnyH_take (i := 0) (oi := ?oi1) (v := ?v1) ?hi1 (by kernel_rfl) (by kernel_rfl) (by kernel_rfl) ?hq1 (Or.inl ⟨?hw1, ?hy1⟩) (by assumption) ?rest1
    case hi1 => simp only [List.getElem?_toArray, List.getElem?_cons_succ, List.getElem?_cons_zero]; rfl
    case hq1 => exact fun _ _ _ h => h
    case hw1 => kernel_rfl
    case hy1 => (intro w hSw; (try dsimp only at hSw); go_simp; try with_reducible rfl)
    try simp only [Act.put, List.setIfInBounds_toArray, List.set_cons_zero, List.set_cons_succ]
    refine wpAnyH_take (i := 1) (oi := ?oi2) (v := ?v2) ?hi2 (by kernel_rfl) (by kernel_rfl) (by kernel_rfl) ?hq2 (Or.inl ⟨?hw2, ?hy2⟩) (by assumption) ?rest2
    case hi2 => simp only [List.getElem?_toArray, List.getElem?_cons_succ, List.getElem?_cons_zero]; rfl
    case hq2 => exact fun _ _ _ h => h
    case hw2 => kernel_rfl
    case hy2 => (intro w hSw; (try dsimp only at hSw); go_simp; try with_reducible rfl)
    try simp only [Act.put, List.setIfInBounds_toArray, List.set_cons_zero, List.set_cons_succ]
    refine wpAnyH_take (i := 2) (oi := ?oi3) (v := ?v3) ?hi3 (by kernel_rfl) (by kernel_rfl) (by kernel_rfl) ?hq3 (Or.inl ⟨?hw3, ?hy3⟩) (by assumption) ?rest3
    case hi3 => simp only [List.getElem?_toArray, List.getElem?_cons_succ, List.getElem?_cons_zero]; rfl
    case hq3 => exact fun _ _ _ h => h
    case hw3 => kernel_rfl
    case hy3 => (intro w hSw; (try dsimp only at hSw); go_simp; try with_reducible rfl)
    try simp only [Act.put, List.setIfInBounds_toArray, List.set_cons_zero, List.set_cons_succ]
    refine wpAnyH_take (i := 3) (oi := ?oi4) (v := ?v4) ?hi4 (by kernel_rfl) (by kernel_rfl) (by kernel_rfl) ?hq4 (Or.inl ⟨?hw4, ?hy4⟩) (by assumption) ?rest4
    case hi4 => simp only [List.getElem?_toArray, List.getElem?_cons_succ, List.getElem?_cons_zero]; rfl
    case hq4 => exact fun _ _ _ h => h
    case hw4 => kernel_rfl
    case hy4 => (intro w hSw; (try dsimp only at hSw); go_simp; try with_reducible rfl)
    try simp only [Act.put, List.setIfInBounds_toArray, List.set_cons_zero, List.set_cons_succ]
    refine wpAnyH_take (i := 5) (oi := ?oi5) (v := ?v5) ?hi5 (by kernel_rfl) (by kernel_rfl) (by kernel_rfl) ?hq5 (Or.inl ⟨?hw5, ?hy5⟩) (by assumption) ?rest5
    case hi5 => simp only [List.getElem?_toArray, List.getElem?_cons_succ, List.getElem?_cons_zero]; rfl
    case hq5 => exact fun _ _ _ h => h
    case hw5 => kernel_rfl
    case hy5 => (intro w hSw; (try dsimp only at hSw); go_simp; try with_reducible rfl)
    try simp only [Act.put, List.setIfInBounds_toArray, List.set_cons_zero, List.set_cons_succ]
    refine wpAnyH_take (i := 6) (oi := ?oi6) (v := ?v6) ?hi6 (by kernel_rfl) (by kernel_rfl) (by kernel_rfl) ?hq6 (Or.inl ⟨?hw6, ?hy6⟩) (by assumption) ?rest6
    case hi6 => simp only [List.getElem?_toArray, List.getElem?_cons_succ, List.getElem?_cons_zero]; rfl
    case hq6 => exact fun _ _ _ h => h
    case hw6 => kernel_rfl
    case hy6 => (intro w hSw; (try dsimp only at hSw); go_simp; try with_reducible rfl)
    try simp only [Act.put, List.setIfInBounds_toArray, List.set_cons_zero, List.set_cons_succ]
    refine wpAnyH_take (i := 7) (oi := ?oi7) (v := ?v7) ?hi7 (by kernel_rfl) (by kernel_rfl) (by kernel_rfl) ?hq7 (Or.inl ⟨?hw7, ?hy7⟩) (by assumption) ?rest7
    case hi7 => simp only [List.getElem?_toArray, List.getElem?_cons_succ, List.getElem?_cons_zero]; rfl
    case hq7 => exact fun _ _ _ h => h
    case hw7 => kernel_rfl
    case hy7 => (intro w hSw; (try dsimp only at hSw); go_simp; try with_reducible rfl)
    try simp only [Act.put, List.setIfInBounds_toArray, List.set_cons_zero, List.set_cons_succ]
    refine wpAnyH_take (i := 8) (oi := ?oi8) (v := ?v8) ?hi8 (by kernel_rfl) (by kernel_rfl) (by kernel_rfl) ?hq8 (Or.inl ⟨?hw8, ?hy8⟩) (by assumption) ?rest8
    case hi8 => simp only [List.getElem?_toArray, List.getElem?_cons_succ, List.getElem?_cons_zero]; rfl
    case hq8 => exact fun _ _ _ h => h
    case hw8 => kernel_rfl
    case hy8 => (intro w hSw; (try dsimp only at hSw); go_simp; try with_reducible rfl)
    try simp only [Act.put, List.setIfInBounds_toArray, List.set_cons_zero, List.set_cons_succ]
    refine wpAnyH_take (i := 12) (oi := ?oi9) (v := ?v9) ?hi9 (by kernel_rfl) (by kernel_rfl) (by kernel_rfl) ?hq9 (Or.inl ⟨?hw9, ?hy9⟩) (by assumption) ?rest9
    case hi9 => simp only [List.getElem?_toArray, List.getElem?_cons_succ, List.getElem?_cons_zero]; rfl
    case hq9 => exact fun _ _ _ h => h
    case hw9 => kernel_rfl
    case hy9 => (intro w hSw; (try dsimp only at hSw); go_simp; try with_reducible rfl)
    try simp only [Act.put, List.setIfInBounds_toArray, List.set_cons_zero, List.set_cons_succ]
    refine wpAnyH_take (i := 13) (oi := ?oi10) (v := ?v10) ?hi10 (by kernel_rfl) (by kernel_rfl) (by kernel_rfl) ?hq10 (Or.inl ⟨?hw10, ?hy10⟩) (by assumption) ?rest10
    case hi10 => simp only [List.getElem?_toArray, List.getElem?_cons_succ, List.getElem?_cons_zero]; rfl
    case hq10 => exact fun _ _ _ h => h
    case hw10 => kernel_rfl
    case hy10 => (intro w hSw; (try dsimp only at hSw); go_simp; try with_reducible rfl)
    try simp only [Act.put, List.setIfInBounds_toArray, List.set_cons_zero, List.set_cons_succ]
    refine wpAnyH_take (i := 14) (oi := ?oi11) (v := ?v11) ?hi11 (by kernel_rfl) (by kernel_rfl) (by kernel_rfl) ?hq11 (Or.inl ⟨?hw11, ?hy11⟩) (by assumption) ?rest11
    case hi11 => simp only [List.getElem?_toArray, List.getElem?_cons_succ, List.getElem?_cons_zero]; rfl
    case hq11 => exact fun _ _ _ h => h
    case hw11 => kernel_rfl
    case hy11 => (intro w hSw; (try dsimp only at hSw); go_simp; try with_reducible rfl)
    try simp only [Act.put, List.setIfInBounds_toArray, List.set_cons_zero, List.set_cons_succ]
    refine wpAnyH_take (i := 15) (oi := ?oi12) (v := ?v12) ?hi12 (by kernel_rfl) (by kernel_rfl) (by kernel_rfl) ?hq12 (Or.inl ⟨?hw12, ?hy12⟩) (by assumption) ?rest12
    case hi12 => simp only [List.getElem?_toArray, List.getElem?_cons_succ, List.getElem?_cons_zero]; rfl
    case hq12 => exact fun _ _ _ h => h
    case hw12 => kernel_rfl
    case hy12 => (intro w hSw; (try dsimp only at hSw); go_simp; try with_reducible rfl)
    try simp only [Act.put, List.setIfInBounds_toArray, List.set_cons_zero, List.set_cons_succ]
    refine wpAnyH_ready (rs := [4, 9]) (by kernel_rfl) (by simp) ?_
    refine AllReadyH.cons (o := ?o13) ?ho13 (fun K hK => ?st13) ?more13
    case ho13 => simp only [List.getElem?_toArray, List.getElem?_cons_succ, List.getElem?_cons_zero]; rfl
    case st13 =>
      go_simp
      refine hK.out _ _ ?_ (fun hHeld => ?_)
      · first | with_reducible exact hHeld | with_reducible exact ⟨DD.out.1 _, DD.out.2.1 _, DD.out.2.2.1 _, DD.out.2.2.2.1 _, DD.out.2.2.2.2 _⟩
      clear hK K
      try simp only [Act.put, List.setIfInBounds_toArray, List.set_cons_zero, List.set_cons_succ]
      refine wpAnyH_ready (rs := [9]) (by kernel_rfl) (by simp) ?_
      refine AllReadyH.cons (o := ?o14) ?ho14 (fun K hK => ?st14) AllReadyH.nil
      case ho14 => simp only [List.getElem?_toArray, List.getElem?_cons_succ, List.getElem?_cons_zero]; rfl
      go_simp
      (go_at_call 52; refine (ireg_any _ T b s gr kr vg _ (by repeat (first | exact HS2.out | apply StoAt.drew | apply StoAt.drewN)) m _ HM.out (by first | exact HB.out | exact HC.out)).mono ?_; rintro e w3 ⟨rfl, n9, rfl⟩)
      try go_simp
      refine hK.out _ _ ?_ (fun hHeld => ?_)
      · with_reducible exact ⟨DD.out.1 _, DD.out.2.1 _, DD.out.2.2.1 _, DD.out.2.2.2.1 _, DD.out.2.2.2.2 _⟩
      clear hK K
      try simp only [Act.put, List.setIfInBounds_toArray, List.set_cons_zero, List.set_cons_succ]
      refine wpAnyH_take (i := 10) (oi := ?oi15) (v := ?v15) ?hi15 (by kernel_rfl) (by kernel_rfl) (by kernel_rfl) ?hq15 (Or.inl ⟨?hw15, ?hy15⟩) (by assumption) ?rest15
      case hi15 => simp only [List.getElem?_toArray, List.getElem?_cons_succ, List.getElem?_cons_zero]; rfl
      case hq15 => exact fun _ _ _ h => h
      case hw15 => kernel_rfl
      case hy15 => (intro w hSw; (try dsimp only at hSw); go_simp; try with_reducible rfl)
      try simp only [Act.put, List.setIfInBounds_toArray, List.set_cons_zero, List.set_cons_succ]
      refine wpAnyH_take (i := 11) (oi := ?oi16) (v := ?v16) ?hi16 (by kernel_rfl) (by kernel_rfl) (by kernel_rfl) ?hq16 (Or.inl ⟨?hw16, ?hy16⟩) (by assumption) ?rest16
      case hi16 => simp only [List.getElem?_toArray, List.getElem?_cons_succ, List.getElem?_cons_zero]; rfl
      case hq16 => exact fun _ _ _ h => h
      case hw16 => kernel_rfl
      case hy16 => (intro w hSw; (try dsimp only at hSw); go_simp; try with_reducible rfl)
      try simp only [Act.put, List.setIfInBounds_toArray, List.set_cons_zero, List.set_cons_succ]
      refine wpAnyH_ready (rs := [16]) (by kernel_rfl) (by simp) ?_
      refine AllReadyH.cons (o := ?o17) ?ho17 (fun K hK => ?st17) AllReadyH.nil
      case ho17 => simp only [List.getElem?_toArray, List.getElem?_cons_succ, List.getElem?_cons_zero]; rfl
      go_simp
      (go_at_call 52; refine (ireg_any _ T b s gr kr vg _ (by repeat (first | exact HS2.out | apply StoAt.drew | apply StoAt.drewN)) m _ HM.out (by first | exact HB.out | exact HC.out)).mono ?_; rintro e w3 ⟨rfl, n16, rfl⟩)
      try go_simp
      refine hK.out _ _ ?_ (fun hHeld => ?_)
      · with_reducible exact ⟨DD.out.1 _, DD.out.2.1 _, DD.out.2.2.1 _, DD.out.2.2.2.1 _, DD.out.2.2.2.2 _⟩
      clear hK K
      try simp only [Act.put, List.setIfInBounds_toArray, List.set_cons_zero, List.set_cons_succ]
      refine wpAnyH_take (i := 17) (oi := ?oi18) (v := ?v18) ?hi18 (by kernel_rfl) (by kernel_rfl) (by kernel_rfl) ?hq18 (Or.inl ⟨?hw18, ?hy18⟩) (by assumption) ?rest18
      case hi18 => simp only [List.getElem?_toArray, List.getElem?_cons_succ, List.getElem?_cons_zero]; rfl
      case hq18 => exact fun _ _ _ h => h
      case hw18 => kernel_rfl
      case hy18 => (intro w hSw; (try dsimp only at hSw); go_simp; try with_reducible rfl)
      try simp only [Act.put, List.setIfInBounds_toArray, List.set_cons_zero, List.set_cons_succ]
      refine wpAnyH_take (i := 18) (oi := ?oi19) (v := ?v19) ?hi19 (by kernel_rfl) (by kernel_rfl) (by kernel_rfl) ?hq19 (Or.inl ⟨?hw19, ?hy19⟩) (by assumption) ?rest19
      case hi19 => simp only [List.getElem?_toArray, List.getElem?_cons_succ, List.getElem?_cons_zero]; rfl
      case hq19 => exact fun _ _ _ h => h
      case hw19 => kernel_rfl
      case hy19 => (intro w hSw; (try dsimp only at hSw); go_simp; try with_reducible rfl)
      try simp only [Act.put, List.setIfInBounds_toArray, List.set_cons_zero, List.set_cons_succ]
      refine wpAnyH_take (i := 19) (oi := ?oi20) (v := ?v20) ?hi20 (by kernel_rfl) (by kernel_rfl) (by kernel_rfl) ?hq20 (Or.inl ⟨?hw20, ?hy20⟩) (by assumption) ?rest20
      case hi20 => simp only [List.getElem?_toArray, List.getElem?_cons_succ, List.getElem?_cons_zero]; rfl
      case hq20 => exact fun _ _ _ h => h
      case hw20 => kernel_rfl
      case hy20 => (intro w hSw; (try dsimp only at hSw); go_simp; try with_reducible rfl)
      try simp only [Act.put, List.setIfInBounds_toArray, List.set_cons_zero, List.set_cons_succ]
      refine wpAnyH_take (i := 20) (oi := ?oi21) (v := ?v21) ?hi21 (by kernel_rfl) (by kernel_rfl) (by kernel_rfl) ?hq21 (Or.inl ⟨?hw21, ?hy21⟩) (by assumption) ?rest21
      case hi21 => simp only [List.getElem?_toArray, List.getElem?_cons_succ, List.getElem?_cons_zero]; rfl
      case hq21 => exact fun _ _ _ h => h
      case hw21 => kernel_rfl
      case hy21 => (intro w hSw; (try dsimp only at hSw); go_simp; try with_reducible rfl)
      try simp only [Act.put, List.setIfInBounds_toArray, List.set_cons_zero, List.set_cons_succ]
      refine wpAnyH_ready (rs := [21]) (by kernel_rfl) (by simp) ?_
      refine AllReadyH.cons (o := ?o22) ?ho22 (fun K hK => ?st22) AllReadyH.nil
      case ho22 => simp only [List.getElem?_toArray, List.getElem?_cons_succ, List.getElem?_cons_zero]; rfl
      go_simp
      refine hK.out _ _ ?_ (fun hHeld => ?_)
      · with_reducible exact ⟨(World.cell?_alloc_lt _ _ _ (ZN.out _)).trans (DD.out.1 _), (World.cell?_alloc_lt _ _ _ (ZN.out _)).trans (DD.out.2.1 _), (World.cell?_alloc_lt _ _ _ (ZN.out _)).trans (DD.out.2.2.1 _), (World.cell?_alloc_lt _ _ _ (GN.out _)).trans (DD.out.2.2.2.1 _), (World.cell?_alloc_lt _ _ _ (GN.out _)).trans (DD.out.2.2.2.2 _)⟩
      clear hK K
      try simp only [Act.put, List.setIfInBounds_toArray, List.set_cons_zero, List.set_cons_succ]
      clear hHeld
      generalize 1 + n9 + n16 = N
      exact tail N
    refine AllReadyH.cons (o := ?o23) ?ho23 (fun K hK => ?st23) AllReadyH.nil
    case ho23 => simp only [List.getElem?_toArray, List.getElem?_cons_succ, List.getElem?_cons_zero]; rfl
    go_simp
    (go_at_call 52; refine (ireg_any _ T b s gr kr vg _ (by repeat (first | exact HS2.out | apply StoAt.drew | apply StoAt.drewN)) m _ HM.out (by first | exact HB.out | exact HC.out)).mono ?_; rintro e w3 ⟨rfl, n9, rfl⟩)
    try go_simp
    refine hK.out _ _ ?_ (fun hHeld => ?_)
    · with_reducible exact ⟨DD.out.1 _, DD.out.2.1 _, DD.out.2.2.1 _, DD.out.2.2.2.1 _, DD.out.2.2.2.2 _⟩
    clear hK K
    try simp only [Act.put, List.setIfInBounds_toArray, List.set_cons_zero, List.set_cons_succ]
    refine wpAnyH_take (i := 10) (oi := ?oi24) (v := ?v24) ?hi24 (by kernel_rfl) (by kernel_rfl) (by kernel_rfl) ?hq24 (Or.inl ⟨?hw24, ?hy24⟩) (by assumption) ?rest24
    case hi24 => simp only [List.getElem?_toArray, List.getElem?_cons_succ, List.getElem?_cons_zero]; rfl
    case hq24 => exact fun _ _ _ h => h
    case hw24 => kernel_rfl
    case hy24 => (intro w hSw; (try dsimp only at hSw); go_simp; try with_reducible rfl)
    try simp only [Act.put, List.setIfInBounds_toArray, List.set_cons_zero, List.set_cons_succ]
    refine wpAnyH_take (i := 11) (oi := ?oi25) (v := ?v25) ?hi25 (by kernel_rfl) (by kernel_rfl) (by kernel_rfl) ?hq25 (Or.inl ⟨?hw25, ?hy25⟩) (by assumption) ?rest25
    case hi25 => simp only [List.getElem?_toArray, List.getElem?_cons_succ, List.getElem?_cons_zero]; rfl
    case hq25 => exact fun _ _ _ h => h
    case hw25 => kernel_rfl
    case hy25 => (intro w hSw; (try dsimp only at hSw); go_simp; try with_reducible rfl)
    try simp only [Act.put, List.setIfInBounds_toArray, List.set_cons_zero, List.set_cons_succ]
    refine wpAnyH_ready (rs := [4, 16]) (by kernel_rfl) (by simp) ?_
    refine AllReadyH.cons (o := ?o26) ?ho26 (fun K hK => ?st26) ?more26
    case ho26 => simp only [List.getElem?_toArray, List.getElem?_cons_succ, List.getElem?_cons_zero]; rfl
    case st26 =>
      go_simp
      refine hK.out _ _ ?_ (fun hHeld => ?_)
      · first | with_reducible exact hHeld | with_reducible exact ⟨DD.out.1 _, DD.out.2.1 _, DD.out.2.2.1 _, DD.out.2.2.2.1 _, DD.out.2.2.2.2 _⟩
      clear hK K
      try simp only [Act.put, List.setIfInBounds_toArray, List.set_cons_zero, List.set_cons_succ]
      refine wpAnyH_ready (rs := [16]) (by kernel_rfl) (by simp) ?_
      refine AllReadyH.cons (o := ?o27) ?ho27 (fun K hK => ?st27) AllReadyH.nil
      case ho27 => simp only [List.getElem?_toArray, List.getElem?_cons_succ, List.getElem?_cons_zero]; rfl
      go_simp
      (go_at_call 52; refine (ireg_any _ T b s gr kr vg _ (by repeat (first | exact HS2.out | apply StoAt.drew | apply StoAt.drewN)) m _ HM.out (by first | exact HB.out | exact HC.out)).mono ?_; rintro e w3 ⟨rfl, n16, rfl⟩)
      try go_simp
      refine hK.out _ _ ?_ (fun hHeld => ?_)
      · with_reducible exact ⟨DD.out.1 _, DD.out.2.1 _, DD.out.2.2.1 _, DD.out.2.2.2.1 _, DD.out.2.2.2.2 _⟩
      clear hK K
      try simp only [Act.put, List.setIfInBounds_toArray, List.set_cons_zero, List.set_cons_succ]
      refine wpAnyH_take (i := 17) (oi := ?oi28) (v := ?v28) ?hi28 (by kernel_rfl) (by kernel_rfl) (by kernel_rfl) ?hq28 (Or.inl ⟨?hw28, ?hy28⟩) (by assumption) ?rest28
      case hi28 => simp only [List.getElem?_toArray, List.getElem?_cons_succ, List.getElem?_cons_zero]; rfl
      case hq28 => exact fun _ _ _ h => h
      case hw28 => kernel_rfl
      case hy28 => (intro w hSw; (try dsimp only at hSw); go_simp; try with_reducible rfl)
      try simp only [Act.put, List.setIfInBounds_toArray, List.set_cons_zero, List.set_cons_succ]
      refine wpAnyH_take (i := 18) (oi := ?oi29) (v := ?v29) ?hi29 (by kernel_rfl) (by kernel_rfl) (by kernel_rfl) ?hq29 (Or.inl ⟨?hw29, ?hy29⟩) (by assumption) ?rest29
      case hi29 => simp only [List.getElem?_toArray, List.getElem?_cons_succ, List.getElem?_cons_zero]; rfl
      case hq29 => exact fun _ _ _ h => h
      case hw29 => kernel_rfl
      case hy29 => (intro w hSw; (try dsimp only at hSw); go_simp; try with_reducible rfl)
      try simp only [Act.put, List.setIfInBounds_toArray, List.set_cons_zero, List.set_cons_succ]
      refine wpAnyH_take (i := 19) (oi := ?oi30) (v := ?v30) ?hi30 (by kernel_rfl) (by kernel_rfl) (by kernel_rfl) ?hq30 (Or.inl ⟨?hw30, ?hy30⟩) (by assumption) ?rest30
      case hi30 => simp only [List.getElem?_toArray, List.getElem?_cons_succ, List.getElem?_cons_zero]; rfl
      case hq30 => exact fun _ _ _ h => h
      case hw30 => kernel_rfl
      case hy30 => (intro w hSw; (try dsimp only at hSw); go_simp; try with_reducible rfl)
      try simp only [Act.put, List.setIfInBounds_toArray, List.set_cons_zero, List.set_cons_succ]
      refine wpAnyH_take (i := 20) (oi := ?oi31) (v := ?v31) ?hi31 (by kernel_rfl) (by kernel_rfl) (by kernel_rfl) ?hq31 (Or.inl ⟨?hw31, ?hy31⟩) (by assumption) ?rest31
      case hi31 => simp only [List.getElem?_toArray, List.getElem?_cons_succ, List.getElem?_cons_zero]; rfl
      case hq31 => exact fun _ _ _ h => h
      case hw31 => kernel_rfl
      case hy31 => (intro w hSw; (try dsimp only at hSw); go_simp; try with_reducible rfl)
      try simp only [Act.put, List.setIfInBounds_toArray, List.set_cons_zero, List.set_cons_succ]
      refine wpAnyH_ready (rs := [21]) (by kernel_rfl) (by simp) ?_
      refine AllReadyH.cons (o := ?o32) ?ho32 (fun K hK => ?st32) AllReadyH.nil
      case ho32 => simp only [List.getElem?_toArray, List.getElem?_cons_succ, List.getElem?_cons_zero]; rfl
      go_simp
      refine hK.out _ _ ?_ (fun hHeld => ?_)
      · with_reducible exact ⟨(World.cell?_alloc_lt _ _ _ (ZN.out _)).trans (DD.out.1 _), (World.cell?_alloc_lt _ _ _ (ZN.out _)).trans (DD.out.2.1 _), (World.cell?_alloc_lt _ _ _ (ZN.out _)).trans (DD.out.2.2.1 _), (World.cell?_alloc_lt _ _ _ (GN.out _)).trans (DD.out.2.2.2.1 _), (World.cell?_alloc_lt _ _ _ (GN.out _)).trans (DD.out.2.2.2.2 _)⟩
      clear hK K
      try simp only [Act.put, List.setIfInBounds_toArray, List.set_cons_zero, List.set_cons_succ]
      clear hHeld
      generalize 1 + n9 + n16 = N
      exact tail N
    refine AllReadyH.cons (o := ?o33) ?ho33 (fun K hK => ?st33) AllReadyH.nil
    case ho33 => simp only [List.getElem?_toArray, List.getElem?_cons_succ, List.getElem?_cons_zero]; rfl
    go_simp
    (go_at_call 52; refine (ireg_any _ T b s gr kr vg _ (by repeat (first | exact HS2.out | apply StoAt.drew | apply StoAt.drewN)) m _ HM.out (by first | exact HB.out | exact HC.out)).mono ?_; rintro e w3 ⟨rfl, n16, rfl⟩)
    try go_simp
    refine hK.out _ _ ?_ (fun hHeld => ?_)
    · with_reducible exact ⟨DD.out.1 _, DD.out.2.1 _, DD.out.2.2.1 _, DD.out.2.2.2.1 _, DD.out.2.2.2.2 _⟩
    clear hK K
    try simp only [Act.put, List.setIfInBounds_toArray, List.set_cons_zero, List.set_cons_succ]
    refine wpAnyH_take (i := 17) (oi := ?oi34) (v := ?v34) ?hi34 (by kernel_rfl) (by kernel_rfl) (by kernel_rfl) ?hq34 (Or.inl ⟨?hw34, ?hy34⟩) (by assumption) ?rest34
    case hi34 => simp only [List.getElem?_toArray, List.getElem?_cons_succ, List.getElem?_cons_zero]; rfl
    case hq34 => exact fun _ _ _ h => h
    case hw34 => kernel_rfl
    case hy34 => (intro w hSw; (try dsimp only at hSw); go_simp; try with_reducible rfl)
    try simp only [Act.put, List.setIfInBounds_toArray, List.set_cons_zero, List.set_cons_succ]
    refine wpAnyH_take (i := 18) (oi := ?oi35) (v := ?v35) ?hi35 (by kernel_rfl) (by kernel_rfl) (by kernel_rfl) ?hq35 (Or.inl ⟨?hw35, ?hy35⟩) (by assumption) ?rest35
    case hi35 => simp only [List.getElem?_toArray, List.getElem?_cons_succ, List.getElem?_cons_zero]; rfl
    case hq35 => exact fun _ _ _ h => h
    case hw35 => kernel_rfl
    case hy35 => (intro w hSw; (try dsimp only at hSw); go_simp; try with_reducible rfl)
    try simp only [Act.put, List.setIfInBounds_toArray, List.set_cons_zero, List.set_cons_succ]
    refine wpAnyH_take (i := 19) (oi := ?oi36) (v := ?v36) ?hi36 (by kernel_rfl) (by kernel_rfl) (by kernel_rfl) ?hq36 (Or.inl ⟨?hw36, ?hy36⟩) (by assumption) ?rest36
    case hi36 => simp only [List.getElem?_toArray, List.getElem?_cons_succ, List.getElem?_cons_zero]; rfl
    case hq36 => exact fun _ _ _ h => h
    case hw36 => kernel_rfl
    case hy36 => (intro w hSw; (try dsimp only at hSw); go_simp; try with_reducible rfl)
    try simp only [Act.put, List.setIfInBounds_toArray, List.set_cons_zero, List.set_cons_succ]
    refine wpAnyH_take (i := 20) (oi := ?oi37) (v := ?v37) ?hi37 (by kernel_rfl) (by kernel_rfl) (by kernel_rfl) ?hq37 (Or.inl ⟨?hw37, ?hy37⟩) (by assumption) ?rest37
    case hi37 => simp only [List.getElem?_toArray, List.getElem?_cons_succ, List.getElem?_cons_zero]; rfl
    case hq37 => exact fun _ _ _ h => h
    case hw37 => kernel_rfl
    case hy37 => (intro w hSw; (try dsimp only at hSw); go_simp; try with_reducible rfl)
    try simp only [Act.put, List.setIfInBounds_toArray, List.set_cons_zero, List.set_cons_succ]
    refine wpAnyH_ready (rs := [4, 21]) (by kernel_rfl) (by simp) ?_
    refine AllReadyH.cons (o := ?o38) ?ho38 (fun K hK => ?st38) ?more38
    case ho38 => simp only [List.getElem?_toArray, List.getElem?_cons_succ, List.getElem?_cons_zero]; rfl
    case st38 =>
      go_simp
      refine hK.out _ _ ?_ (fun hHeld => ?_)
      · first | with_reducible exact hHeld | with_reducible exact ⟨DD.out.1 _, DD.out.2.1 _, DD.out.2.2.1 _, DD.out.2.2.2.1 _, DD.out.2.2.2.2 _⟩
      clear hK K
      try simp only [Act.put, List.setIfInBounds_toArray, List.set_cons_zero, List.set_cons_succ]
      refine wpAnyH_ready (rs := [21]) (by kernel_rfl) (by simp) ?_
      refine AllReadyH.cons (o := ?o39) ?ho39 (fun K hK => ?st39) AllReadyH.nil
      case ho39 => simp only [List.getElem?_toArray, List.getElem?_cons_succ, List.getElem?_cons_zero]; rfl
      go_simp
      refine hK.out _ _ ?_ (fun hHeld => ?_)
      · with_reducible exact ⟨(World.cell?_alloc_lt _ _ _ (ZN.out _)).trans (DD.out.1 _), (World.cell?_alloc_lt _ _ _ (ZN.out _)).trans (DD.out.2.1 _), (World.cell?_alloc_lt _ _ _ (ZN.out _)).trans (DD.out.2.2.1 _), (World.cell?_alloc_lt _ _ _ (GN.out _)).trans (DD.out.2.2.2.1 _), (World.cell?_alloc_lt _ _ _ (GN.out _)).trans (DD.out.2.2.2.2 _)⟩
      clear hK K
      try simp only [Act.put, List.setIfInBounds_toArray, List.set_cons_zero, List.set_cons_succ]
      clear hHeld
      generalize 1 + n9 + n16 = N
      exact tail N
    refine AllReadyH.cons (o := ?o40) ?ho40 (fun K hK => ?st40) AllReadyH.nil
    case ho40 => simp only [List.getElem?_toArray, List.getElem?_cons_succ, List.getElem?_cons_zero]; rfl
    go_simp
    refine hK.out _ _ ?_ (fun hHeld => ?_)
    · with_reducible exact ⟨(World.cell?_alloc_lt _ _ _ (ZN.out _)).trans (DD.out.1 _), (World.cell?_alloc_lt _ _ _ (ZN.out _)).trans (DD.out.2.1 _), (World.cell?_alloc_lt _ _ _ (ZN.out _)).trans (DD.out.2.2.1 _), (World.cell?_alloc_lt _ _ _ (GN.out _)).trans (DD.out.2.2.2.1 _), (World.cell?_alloc_lt _ _ _ (GN.out _)).trans (DD.out.2.2.2.2 _)⟩
    clear hK K
    try simp only [Act.put, List.setIfInBounds_toArray, List.set_cons_zero, List.set_cons_succ]
    refine wpAnyH_ready (rs := [4]) (by kernel_rfl) (by simp) ?_
    refine AllReadyH.cons (o := ?o41) ?ho41 (fun K hK => ?st41) AllReadyH.nil
    case ho41 => simp only [List.getElem?_toArray, List.getElem?_cons_succ, List.getElem?_cons_zero]; rfl
    go_simp
    refine hK.out _ _ ?_ (fun hHeld => ?_)
    · first | with_reducible exact hHeld | with_reducible exact ⟨DD.out.1 _, DD.out.2.1 _, DD.out.2.2.1 _, DD.out.2.2.2.1 _, DD.out.2.2.2.2 _⟩
    clear hK K
    try simp only [Act.put, List.setIfInBounds_toArray, List.set_cons_zero, List.set_cons_succ]
    clear hHeld
    generalize 1 + n9 + n16 = N
    exact tail N
  case tl =>
    intro N
    have hHeld := DDA.out N
    refine wpAnyH_ready (rs := [22]) (by kernel_rfl) (by simp) ?_
    refine AllReadyH.cons (o := ?o42) ?ho42 (fun K hK => ?st42) AllReadyH.nil
    case ho42 => simp only [List.getElem?_toArray, List.getElem?_cons_succ, List.getElem?_cons_zero]; rfl
    refine step_append_cell (vc := vc) rfl (.tmp 70) (.tmp 87) rfl _ (by repeat (first | exact HS2.out | apply StoAt.drew | apply StoAt.drewN)) _ _ HW.out hfew rfl rfl ?_
    intro g cap w' hkp c6 f6 HWK HST
    refine hK.out _ _ ?_ (fun hHeld => ?_)
    · with_reducible exact ⟨(hkp _ (ZN.out _) HVN.out).trans (DD.out.1 _), (hkp _ (ZN.out _) HVN.out).trans (DD.out.2.1 _), (hkp _ (ZN.out _) HVN.out).trans (DD.out.2.2.1 _), (hkp _ (GN.out _) HS2.out.rc).trans (DD.out.2.2.2.1 _), (hkp _ (GN.out _) HS2.out.rc).trans (DD.out.2.2.2.2 _)⟩
    clear hK K
    try simp only [Act.put, List.setIfInBounds_toArray, List.set_cons_zero, List.set_cons_succ]
    refine wpAnyH_take (i := 23) (oi := ?oi43) (v := ?v43) ?hi43 (by kernel_rfl) (by kernel_rfl) (by kernel_rfl) ?hq43 (Or.inl ⟨?hw43, ?hy43⟩) (by assumption) ?rest43
    case hi43 => simp only [List.getElem?_toArray, List.getElem?_cons_succ, List.getElem?_cons_zero]; rfl
    case hq43 => exact fun _ _ _ h => h
    case hw43 => kernel_rfl
    case hy43 => (intro w hSw; (try dsimp only at hSw); go_simp; try with_reducible rfl)
    try simp only [Act.put, List.setIfInBounds_toArray, List.set_cons_zero, List.set_cons_succ]
    refine wpAnyH_take (i := 24) (oi := ?oi44) (v := ?v44) ?hi44 (by kernel_rfl) (by kernel_rfl) (by kernel_rfl) ?hq44 (Or.inl ⟨?hw44, ?hy44⟩) (by assumption) ?rest44
    case hi44 => simp only [List.getElem?_toArray, List.getElem?_cons_succ, List.getElem?_cons_zero]; rfl
    case hq44 => exact fun _ _ _ h => h
    case hw44 => kernel_rfl
    case hy44 => (intro w hSw; (try dsimp only at hSw); go_simp; try with_reducible rfl)
    try simp only [Act.put, List.setIfInBounds_toArray, List.set_cons_zero, List.set_cons_succ]
    refine wpAnyH_ready (rs := [25]) (by kernel_rfl) (by simp) ?_
    refine AllReadyH.cons (o := ?o45) ?ho45 (fun K hK => ?st45) AllReadyH.nil
    case ho45 => simp only [List.getElem?_toArray, List.getElem?_cons_succ, List.getElem?_cons_zero]; rfl
    go_simp
    skip
    refine hK.out _ _ ?_ (fun hHeld => ?_)
    · with_reducible exact ⟨(World.cell?_setCell_far _ _ _ _ HNB.out).trans hHeld.1, (World.cell?_setCell_far _ _ _ _ HNB.out).trans hHeld.2.1, (World.cell?_setCell_far _ _ _ _ HNB.out).trans hHeld.2.2.1, (World.cell?_setCell_far _ _ _ _ HBR.out).trans hHeld.2.2.2.1, (World.cell?_setCell_far _ _ _ _ HBR.out).trans hHeld.2.2.2.2⟩
    clear hK K
    try simp only [Act.put, List.setIfInBounds_toArray, List.set_cons_zero, List.set_cons_succ]
    refine wpAnyH_done (by kernel_rfl) ?_ _
    obtain ⟨y1, _, _, _, _⟩ := hHeld
    have HST0 := Lib.hid HST.out.hc
    have z6 := HST0.out.2.2.2.2.2.2.1
    obtain ⟨c3, f3⟩ := HST.out.rcell HM.out HA.out
    have HRB : Hid (gr ≠ b) := HS2.out.br
    have HV' : Hid (Wd (s.push (s.reg m x.b, s.reg m x.c)).cs.length (s.cs.length * 2 + 1)) := by unfold Hid; simpa [Sto.push] using HV.out
    have s1 : IntKind.i64.wrap ((s.cs.length : Int) + 1 - 1) = (s.cs.length : Int) := by rw [Int.add_sub_cancel]; exact IntWalk.i64_in _ (by omega)
    have s3 : IntKind.i64.wrap (s.cs.length : Int) = (s.cs.length : Int) := IntWalk.i64_in _ (by omega)
    have s2 : IntKind.u64.wrap (s.cs.length : Int) = (s.cs.length : Int) := by rw [IntKind.wrap_u64]; omega
    have s4 : IntKind.u64.wrap ((s.cs.length : Int) * 2) = (s.cs.length : Int) * 2 := by rw [IntKind.wrap_u64]; omega
    have e1 := or_one (s.cs.length : Int) (by omega) (by omega)
    clear K6 k6 c0 c1 c2 x0 x1 x2 x3 hkp c6 f6
    go_wp2_with fail
    go_region_held3 (fun w' => w'.cell? ⟨w.heap.size, 1, none⟩ = some (.int .i64 x.a) ∧ w'.cell? ⟨b, 6, none⟩ = some (.slice (some ⟨g, 0, none⟩) (s.cs.length + 1) cap))
      (first
        | exact ⟨y1, z6⟩
        | exact ⟨(World.cell?_setCell_far _ _ _ _ HNE.out).trans y1, (World.cell?_setCell_far _ _ _ _ HRB.out).trans z6⟩)
      (first
        | (go_at_call 52; refine (ireg_any _ _ b (s.push (s.reg m x.b, s.reg m x.c)) gr kr vg _ (by repeat (first | exact HST.out | apply StoAt.drew | apply StoAt.drewN)) m _ HM.out (by first | exact HA.out)).mono ?_; rintro e w3 ⟨rfl, n, rfl⟩))
    all_goals
      go_wp2_with fail
      go_ret
      exact ⟨rfl, ⟨gr, kr, vg, _, ((HST.out.drewN _).setReg m x.a HM.out HA.out HV'.out).wide (fun y hy => by
        rcases hy with hy | hy
        · exact Or.inl hy
        · refine Or.inr ⟨Nat.le_trans (Nat.le_of_lt (ZN.out N)) hy.1, ?_⟩
          have h2 := hy.2
          simpa [World.setCell] using h2)⟩, ((((((do_keep HB2.out).drewN N).trans HWK.out.2).setCell (p := ⟨b, 6, none⟩) (Or.inl HKT.out.2) _).drewN _).setCell (Or.inl HKT.out.1) _)⟩
end Go.Proofs.YtipoklnoknkfhaaDoor
namespace Go.Proofs.YtipoklnoknkfhaaDoor
open Go Go.RowKit
set_option linter.unusedSimpArgs false
set_option linter.unusedVariables false

set_option maxRecDepth 100000 in
theorem ido_out (w : World) (T : Nat → Prop) (b : Nat) (s : Sto) (gr kr : Nat) (vg vc : Value) (h : StoAt w T b s gr kr vg vc) (m : Int) (x : Opr) (full : Bool) (hm : m < 0 ∨ s.c.muts ≤ m) :
    Calls Tryd.prog 22 #[.pointer (some ⟨b, 0, none⟩), .int .i64 m, x.v, .bool full] w (DoPost w T b (s, 6)) := by
  have HS := Lib.hid (h.below ((Below.refl _ _).alloc (Nat.le_refl _) x.obj))
  obtain ⟨k0, k1, k2, k3, k4, k5, k6, kf⟩ := HS.out.hc
  have hS := Lib.hid h
  clear k0 k2 k3 k4 k5 k6 kf h
  by_cases h1 : m < 0
  · have d1 : decide (m < 0) = true := by simpa using h1
    clear h1 hm k1
    go_enter Tryd.func22, Tryd.ntmps22
    go_wp2_with fail
    go_quiet (fail)
    go_wp2_with fail
    go_ret
    exact ⟨rfl, ⟨gr, kr, vg, vc, (HS.out.drewN _).wide (fun _ => Or.inl)⟩, ((Keep.refl T w).alloc _).drewN _⟩
  · have d1 : decide (m < 0) = false := by simpa using h1
    have d2 : decide (s.c.muts ≤ m) = true := by simp; omega
    clear h1 hm
    go_enter Tryd.func22, Tryd.ntmps22
    go_wp2_with fail
    go_quiet (fail)
    go_wp2_with fail
    go_ret
    exact ⟨rfl, ⟨gr, kr, vg, vc, (HS.out.drewN _).wide (fun _ => Or.inl)⟩, ((Keep.refl T w).alloc _).drewN _⟩
set_option maxRecDepth 100000 in
theorem ido_nil (w : World) (m : Int) (x : Opr) (full : Bool) :
    Calls Tryd.prog 22 #[.pointer none, .int .i64 m, x.v, .bool full] w fun e w' => e = .returned (.int .i64 6) ∧ Below w.heap.size w w' := by
  have HB : Hid (Below w.heap.size w (w.alloc x.obj)) := (Below.refl _ _).alloc (Nat.le_refl _) _
  go_enter Tryd.func22, Tryd.ntmps22
  go_wp2_with fail
  go_quiet (fail)
  go_wp2_with fail
  go_ret
  exact ⟨rfl, below_drewN HB.out _⟩
set_option maxHeartbeats 4000000 in
set_option maxRecDepth 100000 in
theorem ido_err (w : World) (T : Nat → Prop) (b : Nat) (s : Sto) (gr kr : Nat) (vg vc : Value) (h : StoAt w T b s gr kr vg vc) (m : Int) (x : Opr) (full : Bool)
    (hm : 0 ≤ m ∧ m < s.c.muts) (herr : x.err s.c ≠ 0) :
    Calls Tryd.prog 22 #[.pointer (some ⟨b, 0, none⟩), .int .i64 m, x.v, .bool full] w (DoPost w T b (s, 6)) := by
  have HS := Lib.hid (h.below ((Below.refl _ _).alloc (Nat.le_refl _) x.obj))
  have HLT := Lib.hid h.lt.1
  obtain ⟨k0, k1, k2, k3, k4, k5, k6, kf⟩ := HS.out.hc
  obtain ⟨x0, x1, x2, x3⟩ := opr_cells (heap_alloc_new w x.obj)
  have d1 : decide (m < 0) = false := by simp; omega
  have d2 : decide (s.c.muts ≤ m) = false := by simp; omega
  obtain ⟨er, her⟩ : ∃ er, x.err s.c = er := ⟨_, rfl⟩
  have HER := Lib.hid her
  rw [her] at herr
  have e1 : (er == 0) = false := by rw [beq_eq_false_iff_ne]; exact herr
  have e2 : (er != 0) = true := by rw [bne, e1]; rfl
  clear k4 k5 k6 kf h herr hm her
  go_enter Tryd.func22, Tryd.ntmps22
  go_wp2_with fail
  go_region_held3 (fun w' => w'.cell? ⟨b, 0, none⟩ = some (.int .i64 s.c.cells) ∧ w'.cell? ⟨b, 1, none⟩ = some (.int .i64 s.c.muts) ∧ w'.cell? ⟨b, 2, none⟩ = some (.int .i64 s.c.regs) ∧ w'.cell? ⟨b, 3, none⟩ = some (.int .i64 s.c.globs) ∧ w'.cell? ⟨w.heap.size, 0, none⟩ = some (.int .i64 x.kind) ∧ w'.cell? ⟨w.heap.size, 1, none⟩ = some (.int .i64 x.a) ∧ w'.cell? ⟨w.heap.size, 2, none⟩ = some (.int .i64 x.b) ∧ w'.cell? ⟨w.heap.size, 3, none⟩ = some (.int .i64 x.c) ∧ Below (w.heap.size + 1) (w.alloc x.obj) w')
    (first
      | exact ⟨k0, k1, k2, k3, x0, x1, x2, x3, (Below.refl _ _).drew⟩
      | (go_split_ands; refine ⟨?_, ?_, ?_, ?_, ?_, ?_, ?_, ?_, ?_⟩ <;> first | (rw [hb2.cell (by first | (simp; done) | (have := HLT.out; simp; omega))]; assumption) | exact Below.trans (by assumption) (hb2.mono (by simp))))
    (first | (go_at_call 50; refine (ocheck_any _ s.c x).mono ?_; rintro e w2 ⟨rfl, hb2⟩; rw [HER.out]))
  have HB2 : Hid (Below (w.heap.size + 1) (w.alloc x.obj) w2) := ((Below.refl (w.heap.size + 1) (w.alloc x.obj)).drew).trans (hb2.mono (by simp))
  have HS2 : Hid (StoAt w2 T b s gr kr vg vc) := HS.out.below (by simpa using HB2.out)
  rename_i hHeld
  clear hHeld hb2 k0 k1 k2 k3 x0 x1 x2 x3 d1 d2 HS
  go_wp2_with fail
  go_ret
  exact ⟨rfl, ⟨gr, kr, vg, vc, HS2.out.wide (fun _ => Or.inl)⟩, do_keep HB2.out⟩

theorem ido_any (w : World) (T : Nat → Prop) (b : Nat) (s : Sto) (gr kr : Nat) (vg vc : Value) (h : StoAt w T b s gr kr vg vc) (m : Int) (x : Opr) (full : Bool) (hb : x.b < 9223372036854775808) (hf : s.cs.length < 1000000) :
    Calls Tryd.prog 22 #[.pointer (some ⟨b, 0, none⟩), .int .i64 m, x.v, .bool full] w (DoPost w T b (s.act m x full)) := by
  unfold Sto.act
  by_cases hfit : s.fits m x = true
  · rw [if_pos hfit]
    unfold Sto.fits at hfit
    rw [Bool.and_eq_true, decide_eq_true_iff, beq_iff_eq] at hfit
    obtain ⟨hm, herr⟩ := hfit
    obtain ⟨_, hr⟩ := right_of_err herr
    obtain hk | hk | hk | hk | hk | hk | hk | hk | hk | hk | hk : x.kind = 1 ∨ x.kind = 2 ∨ x.kind = 3 ∨ x.kind = 4 ∨ x.kind = 5 ∨ x.kind = 6 ∨ x.kind = 7 ∨ x.kind = 8 ∨ x.kind = 9 ∨ x.kind = 10 ∨ x.kind = 11 := by have := hr.kind; omega
    · exact ido_1 w T b s gr kr vg vc h m x full hm herr hk hb
    · exact ido_2 w T b s gr kr vg vc h m x full hm herr hk hb
    · cases hfl : full
      · exact ido_3 w T b s gr kr vg vc h m x false hm herr hk hb hf rfl
      · exact ido_3f w T b s gr kr vg vc h m x true hm herr hk hb rfl
    · rcases hat : s.at_ (s.reg m x.b) with _ | i
      · exact ido_4n w T b s gr kr vg vc h m x full hm herr hk hb hat
      · exact ido_4s w T b s gr kr vg vc h m x full hm herr hk hb i hat
    · rcases hat : s.at_ (s.reg m x.b) with _ | i
      · exact ido_5n w T b s gr kr vg vc h m x full hm herr hk hb hat
      · exact ido_5s w T b s gr kr vg vc h m x full hm herr hk hb i hat
    · rcases hat : s.at_ (s.reg m x.a) with _ | i
      · exact ido_6n w T b s gr kr vg vc h m x full hm herr hk hb hat
      · exact ido_6s w T b s gr kr vg vc h m x full hm herr hk hb i hat
    · rcases hat : s.at_ (s.reg m x.a) with _ | i
      · exact ido_7n w T b s gr kr vg vc h m x full hm herr hk hb hat
      · exact ido_7s w T b s gr kr vg vc h m x full hm herr hk hb i hat
    · exact ido_8 w T b s gr kr vg vc h m x full hm herr hk hb
    · exact ido_9 w T b s gr kr vg vc h m x full hm herr hk hb
    · exact ido_10 w T b s gr kr vg vc h m x full hm herr hk hb
    · rcases hat : s.at_ (s.reg m x.a) with _ | i
      · exact ido_11n w T b s gr kr vg vc h m x full hm herr hk hb hat
      · exact ido_11s w T b s gr kr vg vc h m x full hm herr hk hb i hat
  · rw [if_neg hfit]
    by_cases hm : 0 ≤ m ∧ m < s.c.muts
    · refine ido_err w T b s gr kr vg vc h m x full hm (fun e => hfit ?_)
      unfold Sto.fits
      rw [e]
      simpa using hm
    · exact ido_out w T b s gr kr vg vc h m x full (by omega)
end Go.Proofs.YtipoklnoknkfhaaDoor
