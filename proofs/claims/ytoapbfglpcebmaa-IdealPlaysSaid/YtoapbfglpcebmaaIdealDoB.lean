/- The contract of an ideal store's Do, kind by kind (more). -/
import Derived.Test.YtoapbfglpcebmaaIdealDo
namespace Go.Proofs.Ytoapbfglpcebmaa
open Go Go.RowKit
set_option linter.unusedSimpArgs false
set_option linter.unusedVariables false

set_option maxHeartbeats 4000000 in
set_option maxRecDepth 100000 in
theorem ido_5n (w : World) (T : Nat → Prop) (b : Nat) (s : Sto) (gr kr : Nat) (vg vc : Value) (h : StoAt w T b s gr kr vg vc) (m : Int) (x : Opr) (full : Bool)
    (hm : 0 ≤ m ∧ m < s.c.muts) (herr : x.err s.c = 0) (hk : x.kind = 5) (h63 : x.b < 9223372036854775808) (hat : s.at_ (s.reg m x.b) = none) :
    Calls Try.prog 24 #[.pointer (some ⟨b, 0, none⟩), .int .i64 m, x.v, .bool full] w (DoPost w T b (s.did m x full)) := by
  obtain ⟨_, hr⟩ := right_of_err herr
  have HA : Hid (0 ≤ x.a ∧ x.a < s.c.regs) := hr.a (by omega)
  have HB : Hid (0 ≤ x.b ∧ x.b < s.c.regs) := hr.b (by omega) (by omega) (by omega)
  have HW : Hid (Wd s.cs.length (s.reg m x.b)) := h.ok.regW hm.1 hm.2 HB.out.1 HB.out.2
  have HAT := Lib.hid hat
  have HD : Hid (s.did m x full = (s, 4)) := by unfold Hid Sto.did; rw [if_neg (by omega), if_neg (by omega), if_neg (by omega), if_neg (by omega), if_pos hk, hat]
  rw [HD.out]
  have HERR := Lib.hid herr
  have HS := Lib.hid (h.below ((Below.refl _ _).alloc (Nat.le_refl _) x.obj))
  have HLT := Lib.hid h.lt.1
  have HNE : Hid (gr ≠ w.heap.size) := by have := h.lt.2.1; unfold Hid; omega
  have HNB : Hid (b ≠ w.heap.size) := by have := h.lt.1; unfold Hid; omega
  have HKT : Hid (T gr ∧ T b) := ⟨h.tr, h.tb⟩
  obtain ⟨k0, k1, k2, k3, k4, k5, k6, kf⟩ := HS.out.hc
  obtain ⟨x0, x1, x2, x3⟩ := opr_cells (heap_alloc_new w x.obj)
  have d1 : decide (m < 0) = false := by simp; omega
  have d2 : decide (s.c.muts ≤ m) = false := by simp; omega
  have t1 : (x.kind == 1) = false := by rw [beq_eq_false_iff_ne]; omega
  have t2 : (x.kind == 2) = false := by rw [beq_eq_false_iff_ne]; omega
  have t3 : (x.kind == 3) = false := by rw [beq_eq_false_iff_ne]; omega
  have t4 : (x.kind == 4) = false := by rw [beq_eq_false_iff_ne]; omega
  have t5 : (x.kind == 5) = true := by rw [beq_iff_eq]; omega
  have HM := Lib.hid hm
  clear hat
  clear k4 k5 k6 kf h herr hr hm hk
  go_enter Try.func24, Try.ntmps24
  go_wp2_with fail
  go_region_held3 (fun w' => w'.cell? ⟨b, 0, none⟩ = some (.int .i64 s.c.cells) ∧ w'.cell? ⟨b, 1, none⟩ = some (.int .i64 s.c.muts) ∧ w'.cell? ⟨b, 2, none⟩ = some (.int .i64 s.c.regs) ∧ w'.cell? ⟨b, 3, none⟩ = some (.int .i64 s.c.globs) ∧ w'.cell? ⟨w.heap.size, 0, none⟩ = some (.int .i64 x.kind) ∧ w'.cell? ⟨w.heap.size, 1, none⟩ = some (.int .i64 x.a) ∧ w'.cell? ⟨w.heap.size, 2, none⟩ = some (.int .i64 x.b) ∧ w'.cell? ⟨w.heap.size, 3, none⟩ = some (.int .i64 x.c) ∧ Below (w.heap.size + 1) (w.alloc x.obj) w')
    (first
      | exact ⟨k0, k1, k2, k3, x0, x1, x2, x3, (Below.refl _ _).drew⟩
      | (go_split_ands; refine ⟨?_, ?_, ?_, ?_, ?_, ?_, ?_, ?_, ?_⟩ <;> first | (rw [hb2.cell (by first | (simp; done) | (have := HLT.out; simp; omega))]; assumption) | exact Below.trans (by assumption) (hb2.mono (by simp))))
    (first | (go_at_call 50; refine (ocheck_any _ s.c x).mono ?_; rintro e w2 ⟨rfl, hb2⟩; rw [HERR.out]))
  have HB2 : Hid (Below (w.heap.size + 1) (w.alloc x.obj) w2) := ((Below.refl (w.heap.size + 1) (w.alloc x.obj)).drew).trans (hb2.mono (by simp))
  have hS2 : StoAt w2 T b s gr kr vg vc := HS.out.below (by simpa using HB2.out)
  have HX2 : Hid (w2.heap[w.heap.size]? = some x.obj) := (HB2.out.block _ (by omega)).trans (heap_alloc_new w x.obj)
  have HS2 := Lib.hid hS2
  have HZ2 : Hid (w.heap.size < w2.heap.size) := by have := HB2.out.size; simp at this; unfold Hid; omega
  have HLR := Lib.hid hS2.lt
  rename_i hHeld
  clear hHeld hb2 k0 k1 k2 k3 x0 x1 x2 x3 d1 d2 HS
  obtain ⟨x0, x1, x2, x3⟩ := opr_cells HX2.out
  obtain ⟨c1, f1⟩ := hS2.rcell HM.out HB.out
  clear hS2 f1
  go_wp2_with (first
    | (go_at_call 52; refine (ireg_any _ T b s gr kr vg _ (by repeat (first | exact HS2.out | apply StoAt.drew | apply StoAt.drewN)) m _ HM.out (by first | exact HB.out)).mono ?_; rintro e w3 ⟨rfl, n0, rfl⟩)
    | (go_at_call 53; refine (iat_none _ T b s gr kr vg _ (by repeat (first | exact HS2.out | apply StoAt.drew | apply StoAt.drewN)) _ HW.out HAT.out).mono ?_; rintro e w3 ⟨rfl, rfl⟩))
  go_ret
  exact ⟨rfl, ⟨gr, kr, vg, _, (HS2.out.drewN _).wide (fun _ => Or.inl)⟩, (do_keep HB2.out).drewN _⟩
set_option maxHeartbeats 4000000 in
set_option maxRecDepth 100000 in
theorem ido_5s (w : World) (T : Nat → Prop) (b : Nat) (s : Sto) (gr kr : Nat) (vg vc : Value) (h : StoAt w T b s gr kr vg vc) (m : Int) (x : Opr) (full : Bool)
    (hm : 0 ≤ m ∧ m < s.c.muts) (herr : x.err s.c = 0) (hk : x.kind = 5) (h63 : x.b < 9223372036854775808) (i : Nat) (hat : s.at_ (s.reg m x.b) = some i) :
    Calls Try.prog 24 #[.pointer (some ⟨b, 0, none⟩), .int .i64 m, x.v, .bool full] w (DoPost w T b (s.did m x full)) := by
  obtain ⟨_, hr⟩ := right_of_err herr
  have HA : Hid (0 ≤ x.a ∧ x.a < s.c.regs) := hr.a (by omega)
  have HB : Hid (0 ≤ x.b ∧ x.b < s.c.regs) := hr.b (by omega) (by omega) (by omega)
  have HW : Hid (Wd s.cs.length (s.reg m x.b)) := h.ok.regW hm.1 hm.2 HB.out.1 HB.out.2
  have HAT := Lib.hid hat
  have HI : Hid (i < s.cs.length) := at_lt HW.out hat
  have HV : Hid (Wd s.cs.length (s.cdr i)) := (h.ok.cellW i).2
  have HU : Hid (Wd s.cs.length (s.car i)) := (h.ok.cellW i).1
  have HD : Hid (s.did m x full = (s.setReg m x.a (s.cdr i), 1)) := by unfold Hid Sto.did; rw [if_neg (by omega), if_neg (by omega), if_neg (by omega), if_neg (by omega), if_pos hk, hat]
  rw [HD.out]
  have HERR := Lib.hid herr
  have HS := Lib.hid (h.below ((Below.refl _ _).alloc (Nat.le_refl _) x.obj))
  have HLT := Lib.hid h.lt.1
  have HNE : Hid (gr ≠ w.heap.size) := by have := h.lt.2.1; unfold Hid; omega
  have HNB : Hid (b ≠ w.heap.size) := by have := h.lt.1; unfold Hid; omega
  have HKT : Hid (T gr ∧ T b) := ⟨h.tr, h.tb⟩
  obtain ⟨k0, k1, k2, k3, k4, k5, k6, kf⟩ := HS.out.hc
  obtain ⟨x0, x1, x2, x3⟩ := opr_cells (heap_alloc_new w x.obj)
  have d1 : decide (m < 0) = false := by simp; omega
  have d2 : decide (s.c.muts ≤ m) = false := by simp; omega
  have t1 : (x.kind == 1) = false := by rw [beq_eq_false_iff_ne]; omega
  have t2 : (x.kind == 2) = false := by rw [beq_eq_false_iff_ne]; omega
  have t3 : (x.kind == 3) = false := by rw [beq_eq_false_iff_ne]; omega
  have t4 : (x.kind == 4) = false := by rw [beq_eq_false_iff_ne]; omega
  have t5 : (x.kind == 5) = true := by rw [beq_iff_eq]; omega
  have HM := Lib.hid hm
  clear hat
  clear k4 k5 k6 kf h herr hr hm hk
  go_enter Try.func24, Try.ntmps24
  go_wp2_with fail
  go_region_held3 (fun w' => w'.cell? ⟨b, 0, none⟩ = some (.int .i64 s.c.cells) ∧ w'.cell? ⟨b, 1, none⟩ = some (.int .i64 s.c.muts) ∧ w'.cell? ⟨b, 2, none⟩ = some (.int .i64 s.c.regs) ∧ w'.cell? ⟨b, 3, none⟩ = some (.int .i64 s.c.globs) ∧ w'.cell? ⟨w.heap.size, 0, none⟩ = some (.int .i64 x.kind) ∧ w'.cell? ⟨w.heap.size, 1, none⟩ = some (.int .i64 x.a) ∧ w'.cell? ⟨w.heap.size, 2, none⟩ = some (.int .i64 x.b) ∧ w'.cell? ⟨w.heap.size, 3, none⟩ = some (.int .i64 x.c) ∧ Below (w.heap.size + 1) (w.alloc x.obj) w')
    (first
      | exact ⟨k0, k1, k2, k3, x0, x1, x2, x3, (Below.refl _ _).drew⟩
      | (go_split_ands; refine ⟨?_, ?_, ?_, ?_, ?_, ?_, ?_, ?_, ?_⟩ <;> first | (rw [hb2.cell (by first | (simp; done) | (have := HLT.out; simp; omega))]; assumption) | exact Below.trans (by assumption) (hb2.mono (by simp))))
    (first | (go_at_call 50; refine (ocheck_any _ s.c x).mono ?_; rintro e w2 ⟨rfl, hb2⟩; rw [HERR.out]))
  have HB2 : Hid (Below (w.heap.size + 1) (w.alloc x.obj) w2) := ((Below.refl (w.heap.size + 1) (w.alloc x.obj)).drew).trans (hb2.mono (by simp))
  have hS2 : StoAt w2 T b s gr kr vg vc := HS.out.below (by simpa using HB2.out)
  have HX2 : Hid (w2.heap[w.heap.size]? = some x.obj) := (HB2.out.block _ (by omega)).trans (heap_alloc_new w x.obj)
  have HS2 := Lib.hid hS2
  have HZ2 : Hid (w.heap.size < w2.heap.size) := by have := HB2.out.size; simp at this; unfold Hid; omega
  have HLR := Lib.hid hS2.lt
  rename_i hHeld
  clear hHeld hb2 k0 k1 k2 k3 x0 x1 x2 x3 d1 d2 HS
  obtain ⟨x0, x1, x2, x3⟩ := opr_cells HX2.out
  obtain ⟨c1, f1⟩ := hS2.rcell HM.out HB.out
  obtain ⟨c0, f0⟩ := hS2.rcell HM.out HA.out
  obtain ⟨gc, kc, rfl, g0, g1, _, _, _, _, htc, _, hcr⟩ := hS2.ccell HI.out
  have HCR : Hid (gr ≠ gc) := fun e => hcr e.symm
  clear hS2 f1 htc hcr
  go_wp2_with (first
    | (go_at_call 52; refine (ireg_any _ T b s gr kr vg _ (by repeat (first | exact HS2.out | apply StoAt.drew | apply StoAt.drewN)) m _ HM.out (by first | exact HB.out)).mono ?_; rintro e w3 ⟨rfl, n0, rfl⟩)
    | (go_at_call 53; refine (iat_some _ T b s gr kr vg gc kc (by repeat (first | exact HS2.out | apply StoAt.drew | apply StoAt.drewN)) _ HW.out i HAT.out).mono ?_; rintro e w3 ⟨rfl, rfl⟩))
  go_region_held3 (fun w' => w'.cell? ⟨w.heap.size, 0, none⟩ = some (.int .i64 x.kind) ∧ w'.cell? ⟨w.heap.size, 1, none⟩ = some (.int .i64 x.a) ∧ w'.cell? ⟨gc, i * 2, none⟩ = some (.int .u64 (s.car i)) ∧ w'.cell? ⟨gc, i * 2 + 1, none⟩ = some (.int .u64 (s.cdr i)))
    (first
      | exact ⟨x0, x1, g0, g1⟩
      | exact ⟨(World.cell?_setCell_far _ _ _ _ HNE.out).trans x0, (World.cell?_setCell_far _ _ _ _ HNE.out).trans x1, (World.cell?_setCell_far _ _ _ _ HCR.out).trans g0, (World.cell?_setCell_far _ _ _ _ HCR.out).trans g1⟩)
    (first
      | (go_at_call 52; refine (ireg_any _ T b s gr kr vg _ (by repeat (first | exact HS2.out | apply StoAt.drew | apply StoAt.drewN)) m _ HM.out (by first | exact HA.out)).mono ?_; rintro e w3 ⟨rfl, n, rfl⟩))
  rename_i hHeld
  obtain ⟨y0, y1, y2, y3⟩ := hHeld
  have HS3 := Lib.hid ((HS2.out.drewN (n0 + 1 + n)).setReg m x.a HM.out HA.out HU.out)
  clear x0 x1 g0 g1
  go_wp2_with fail
  go_region_held3 (fun w' => w'.cell? ⟨w.heap.size, 0, none⟩ = some (.int .i64 x.kind) ∧ w'.cell? ⟨w.heap.size, 1, none⟩ = some (.int .i64 x.a) ∧ w'.cell? ⟨gc, i * 2, none⟩ = some (.int .u64 (s.car i)) ∧ w'.cell? ⟨gc, i * 2 + 1, none⟩ = some (.int .u64 (s.cdr i)))
    (first
      | exact ⟨y0, y1, y2, y3⟩
      | exact ⟨(World.cell?_setCell_far _ _ _ _ HNE.out).trans y0, (World.cell?_setCell_far _ _ _ _ HNE.out).trans y1, (World.cell?_setCell_far _ _ _ _ HCR.out).trans y2, (World.cell?_setCell_far _ _ _ _ HCR.out).trans y3⟩)
    (first
      | (go_at_call 52; refine (ireg_any _ T b (s.setReg m x.a (s.car i)) gr kr vg _ (by repeat (first | exact HS3.out | apply StoAt.drew | apply StoAt.drewN)) m _ HM.out (by first | exact HA.out)).mono ?_; rintro e w3 ⟨rfl, n, rfl⟩; rw [show (s.setReg m x.a (s.car i)).ix m x.a = s.ix m x.a from rfl]))
  all_goals
    go_wp2_with fail
    go_ret
    refine ⟨rfl, ⟨gr, kr, vg, .slice (some ⟨gc, 0, none⟩) s.cs.length kc, ?_⟩, ((((do_keep HB2.out).drewN _).setCell (Or.inl HKT.out.1) _).drewN _).setCell (Or.inl HKT.out.1) _⟩
    rw [← setReg_setReg s m x.a (s.car i) (s.cdr i)]
    exact ((HS3.out.drewN _).setReg m x.a HM.out HA.out HV.out).wide (fun _ => Or.inl)
end Go.Proofs.Ytoapbfglpcebmaa
