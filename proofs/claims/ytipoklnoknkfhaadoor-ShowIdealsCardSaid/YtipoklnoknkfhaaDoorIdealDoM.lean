/- The contract of an ideal store's Do, kind by kind. The contract of an ideal store's Do, kind by kind (more). The contract of an ideal store's Do, kind by kind (more). The contract of an ideal store's Do, kind by kind (more). -/
import Derived.Test.YtipoklnoknkfhaaDoorIdealMore
import Derived.Deep.RegionHeld3
namespace Go.Proofs.YtipoklnoknkfhaaDoor
open Go Go.RowKit
set_option linter.unusedSimpArgs false
set_option linter.unusedVariables false

def DoPost (w : World) (T : Nat → Prop) (b : Nat) (r : Sto × Int) (e : Ending) (w' : World) : Prop :=
  e = .returned (.int .i64 r.2) ∧ (∃ gr kr vg vc, StoAt w' (fun x => T x ∨ (w.heap.size ≤ x ∧ x < w'.heap.size)) b r.1 gr kr vg vc) ∧ Keep T w w'
theorem StoAt.wide {w : World} {T T' : Nat → Prop} {b : Nat} {s : Sto} {gr kr : Nat} {vg vc : Value} (h : StoAt w T b s gr kr vg vc) (ht : ∀ x, T x → T' x) : StoAt w T' b s gr kr vg vc :=
  { h with tb := ht _ h.tb, tr := ht _ h.tr, tg := fun x hx => ht x (h.tg x hx), tc := fun x hx => ht x (h.tc x hx) }
theorem StoAt.drew {w : World} {T : Nat → Prop} {b : Nat} {s : Sto} {gr kr : Nat} {vg vc : Value} (h : StoAt w T b s gr kr vg vc) : StoAt w.drew T b s gr kr vg vc := h.keep ((Keep.refl (fun _ => False) w).drew) (fun _ _ => id)
theorem StoAt.drewN {w : World} {T : Nat → Prop} {b : Nat} {s : Sto} {gr kr : Nat} {vg vc : Value} (h : StoAt w T b s gr kr vg vc) (n : Nat) : StoAt (w.drewN n) T b s gr kr vg vc := h.keep ((Keep.refl (fun _ => False) w).drewN n) (fun _ _ => id)
theorem do_keep {w w2 : World} {x : Opr} {T : Nat → Prop} (hb : Below (w.heap.size + 1) (w.alloc x.obj) w2) : Keep T w w2 :=
  ((Keep.refl T w).alloc x.obj).trans (Keep.of_below (by simpa using hb) T)
theorem iat_none (w : World) (T : Nat → Prop) (b : Nat) (s : Sto) (gr kr : Nat) (vg vc : Value) (h : StoAt w T b s gr kr vg vc) (x : Int) (hx : Wd s.cs.length x) (hn : s.at_ x = none) :
    Calls Tryd.prog 53 #[.pointer (some ⟨b, 0, none⟩), .int .u64 x] w fun e w' => e = .returned (.pointer none) ∧ w' = w := by
  refine (iat_any w T b s gr kr vg vc h x hx).mono ?_
  rintro e w' ⟨hw, ⟨_, he⟩ | ⟨i, gc, kc, hs, _⟩⟩
  · exact ⟨he, hw⟩
  · rw [hn] at hs; cases hs
theorem iat_some (w : World) (T : Nat → Prop) (b : Nat) (s : Sto) (gr kr : Nat) (vg : Value) (gc kc : Nat) (h : StoAt w T b s gr kr vg (.slice (some ⟨gc, 0, none⟩) s.cs.length kc)) (x : Int) (hx : Wd s.cs.length x) (i : Nat) (hi : s.at_ x = some i) :
    Calls Tryd.prog 53 #[.pointer (some ⟨b, 0, none⟩), .int .u64 x] w fun e w' => e = .returned (.pointer (some ⟨gc, i * 2, none⟩)) ∧ w' = w := by
  refine (iat_any w T b s gr kr vg _ h x hx).mono ?_
  rintro e w' ⟨hw, ⟨hn, _⟩ | ⟨j, g, k, hs, _, hv, he⟩⟩
  · rw [hn] at hi; cases hi
  · rw [hi] at hs
    cases hs
    simp at hv
    obtain ⟨rfl, rfl⟩ := hv
    exact ⟨he, hw⟩
theorem set_same {w : World} {p q : Addr} {v : Value} (h : w.cell? q = some v) : (w.setCell p v).cell? q = some v := by
  by_cases e : p = q
  · subst e; exact World.cell?_setCell_same' w p v (by rw [h]; rfl)
  · rw [World.cell?_setCell_other (h := e)]; exact h
theorem setReg_setReg (s : Sto) (m r x y : Int) : (s.setReg m r x).setReg m r y = s.setReg m r y := by
  simp [Sto.setReg, Sto.ix, List.set_set]
theorem at_lt {s : Sto} {x : Int} (h : Wd s.cs.length x) {i : Nat} (hi : s.at_ x = some i) : i < s.cs.length := by
  obtain ⟨h0, _, h2⟩ := h
  unfold Sto.at_ at hi
  split at hi
  · rename_i hc; cases hi; omega
  · cases hi

set_option maxHeartbeats 4000000 in
set_option maxRecDepth 100000 in
theorem ido_1 (w : World) (T : Nat → Prop) (b : Nat) (s : Sto) (gr kr : Nat) (vg vc : Value) (h : StoAt w T b s gr kr vg vc) (m : Int) (x : Opr) (full : Bool)
    (hm : 0 ≤ m ∧ m < s.c.muts) (herr : x.err s.c = 0) (hk : x.kind = 1) (h63 : x.b < 9223372036854775808) :
    Calls Tryd.prog 22 #[.pointer (some ⟨b, 0, none⟩), .int .i64 m, x.v, .bool full] w (DoPost w T b (s.did m x full)) := by
  obtain ⟨_, hr⟩ := right_of_err herr
  have HA : Hid (0 ≤ x.a ∧ x.a < s.c.regs) := hr.a (by omega)
  have hb0 := hr.b1 hk
  have HW : Hid (Wd s.cs.length (x.b * 2)) := ⟨by omega, by omega, fun h => by omega⟩
  have HD : Hid (s.did m x full = (s.setReg m x.a (x.b * 2), 1)) := by unfold Hid Sto.did; rw [if_pos hk]
  rw [HD.out]
  have HERR := Lib.hid herr
  have HS := Lib.hid (h.below ((Below.refl _ _).alloc (Nat.le_refl _) x.obj))
  have HLT := Lib.hid h.lt.1
  have HNE : Hid (gr ≠ w.heap.size) := by have := h.lt.2.1; unfold Hid; omega
  have HNB : Hid (b ≠ w.heap.size) := by have := h.lt.1; unfold Hid; omega
  have HKT : Hid (T gr ∧ T b) := ⟨h.tr, h.tb⟩
  obtain ⟨k0, k1, k2, k3, k4, k5, k6, kf⟩ := HS.out.hc
  obtain ⟨x0, x1, x2, x3⟩ := opr_cells (heap_alloc_new w x.obj)
  have d1 : decide (m < 0) = false := by simp; omega
  have d2 : decide (s.c.muts ≤ m) = false := by simp; omega
  have t1 : (x.kind == 1) = true := by rw [beq_iff_eq]; omega
  have HM := Lib.hid hm
  clear k4 k5 k6 kf h herr hr hm hk
  go_enter Tryd.func22, Tryd.ntmps22
  go_wp2_with fail
  go_region_held3 (fun w' => w'.cell? ⟨b, 0, none⟩ = some (.int .i64 s.c.cells) ∧ w'.cell? ⟨b, 1, none⟩ = some (.int .i64 s.c.muts) ∧ w'.cell? ⟨b, 2, none⟩ = some (.int .i64 s.c.regs) ∧ w'.cell? ⟨b, 3, none⟩ = some (.int .i64 s.c.globs) ∧ w'.cell? ⟨w.heap.size, 0, none⟩ = some (.int .i64 x.kind) ∧ w'.cell? ⟨w.heap.size, 1, none⟩ = some (.int .i64 x.a) ∧ w'.cell? ⟨w.heap.size, 2, none⟩ = some (.int .i64 x.b) ∧ w'.cell? ⟨w.heap.size, 3, none⟩ = some (.int .i64 x.c) ∧ Below (w.heap.size + 1) (w.alloc x.obj) w')
    (first
      | exact ⟨k0, k1, k2, k3, x0, x1, x2, x3, (Below.refl _ _).drew⟩
      | (go_split_ands; refine ⟨?_, ?_, ?_, ?_, ?_, ?_, ?_, ?_, ?_⟩ <;> first | (rw [hb2.cell (by first | (simp; done) | (have := HLT.out; simp; omega))]; assumption) | exact Below.trans (by assumption) (hb2.mono (by simp))))
    (first | (go_at_call 50; refine (ocheck_any _ s.c x).mono ?_; rintro e w2 ⟨rfl, hb2⟩; rw [HERR.out]))
  have HB2 : Hid (Below (w.heap.size + 1) (w.alloc x.obj) w2) := ((Below.refl (w.heap.size + 1) (w.alloc x.obj)).drew).trans (hb2.mono (by simp))
  have hS2 : StoAt w2 T b s gr kr vg vc := HS.out.below (by simpa using HB2.out)
  have HX2 : Hid (w2.heap[w.heap.size]? = some x.obj) := (HB2.out.block _ (by omega)).trans (heap_alloc_new w x.obj)
  have HS2 := Lib.hid hS2
  have HZ2 : Hid (w.heap.size < w2.heap.size) := by have := HB2.out.size; simp at this; unfold Hid; omega
  have HLR := Lib.hid hS2.lt
  rename_i hHeld
  clear hHeld hb2 k0 k1 k2 k3 x0 x1 x2 x3 d1 d2 HS
  obtain ⟨x0, x1, x2, x3⟩ := opr_cells HX2.out
  obtain ⟨c0, f0⟩ := hS2.rcell HM.out HA.out
  clear hS2
  go_wp2_with fail
  go_region_held3 (fun w' => w'.cell? ⟨w.heap.size, 1, none⟩ = some (.int .i64 x.a) ∧ w'.cell? ⟨w.heap.size, 2, none⟩ = some (.int .i64 x.b))
    (first
      | exact ⟨x1, x2⟩
      | exact ⟨(World.cell?_setCell_far _ _ _ _ HNE.out).trans x1, (World.cell?_setCell_far _ _ _ _ HNE.out).trans x2⟩)
    (first
      | (go_at_call 52; refine (ireg_any _ T b s gr kr vg _ (by repeat (first | exact HS2.out | apply StoAt.drew | apply StoAt.drewN)) m _ HM.out (by first | exact HA.out)).mono ?_; rintro e w3 ⟨rfl, n, rfl⟩)
      | (go_at_call 51; refine (atom_any _ x.b (by omega) (by omega)).mono ?_; rintro e w3 ⟨rfl, rfl⟩; rw [if_neg (by omega)]))
  all_goals
    go_wp2_with fail
    go_ret
    exact ⟨rfl, ⟨gr, kr, vg, _, ((HS2.out.drewN _).setReg m x.a HM.out HA.out HW.out).wide (fun _ => Or.inl)⟩, ((do_keep HB2.out).drewN _).setCell (Or.inl HKT.out.1) _⟩
set_option maxHeartbeats 4000000 in
set_option maxRecDepth 100000 in
theorem ido_2 (w : World) (T : Nat → Prop) (b : Nat) (s : Sto) (gr kr : Nat) (vg vc : Value) (h : StoAt w T b s gr kr vg vc) (m : Int) (x : Opr) (full : Bool)
    (hm : 0 ≤ m ∧ m < s.c.muts) (herr : x.err s.c = 0) (hk : x.kind = 2) (h63 : x.b < 9223372036854775808) :
    Calls Tryd.prog 22 #[.pointer (some ⟨b, 0, none⟩), .int .i64 m, x.v, .bool full] w (DoPost w T b (s.did m x full)) := by
  obtain ⟨_, hr⟩ := right_of_err herr
  have HA : Hid (0 ≤ x.a ∧ x.a < s.c.regs) := hr.a (by omega)
  have HB : Hid (0 ≤ x.b ∧ x.b < s.c.regs) := hr.b (by omega) (by omega) (by omega)
  have HW : Hid (Wd s.cs.length (s.reg m x.b)) := h.ok.regW hm.1 hm.2 HB.out.1 HB.out.2
  have HD : Hid (s.did m x full = (s.setReg m x.a (s.reg m x.b), 1)) := by unfold Hid Sto.did; rw [if_neg (by omega), if_pos hk]
  rw [HD.out]
  have HERR := Lib.hid herr
  have HS := Lib.hid (h.below ((Below.refl _ _).alloc (Nat.le_refl _) x.obj))
  have HLT := Lib.hid h.lt.1
  have HNE : Hid (gr ≠ w.heap.size) := by have := h.lt.2.1; unfold Hid; omega
  have HNB : Hid (b ≠ w.heap.size) := by have := h.lt.1; unfold Hid; omega
  have HKT : Hid (T gr ∧ T b) := ⟨h.tr, h.tb⟩
  obtain ⟨k0, k1, k2, k3, k4, k5, k6, kf⟩ := HS.out.hc
  obtain ⟨x0, x1, x2, x3⟩ := opr_cells (heap_alloc_new w x.obj)
  have d1 : decide (m < 0) = false := by simp; omega
  have d2 : decide (s.c.muts ≤ m) = false := by simp; omega
  have t1 : (x.kind == 1) = false := by rw [beq_eq_false_iff_ne]; omega
  have t2 : (x.kind == 2) = true := by rw [beq_iff_eq]; omega
  have HM := Lib.hid hm
  clear k4 k5 k6 kf h herr hr hm hk
  go_enter Tryd.func22, Tryd.ntmps22
  go_wp2_with fail
  go_region_held3 (fun w' => w'.cell? ⟨b, 0, none⟩ = some (.int .i64 s.c.cells) ∧ w'.cell? ⟨b, 1, none⟩ = some (.int .i64 s.c.muts) ∧ w'.cell? ⟨b, 2, none⟩ = some (.int .i64 s.c.regs) ∧ w'.cell? ⟨b, 3, none⟩ = some (.int .i64 s.c.globs) ∧ w'.cell? ⟨w.heap.size, 0, none⟩ = some (.int .i64 x.kind) ∧ w'.cell? ⟨w.heap.size, 1, none⟩ = some (.int .i64 x.a) ∧ w'.cell? ⟨w.heap.size, 2, none⟩ = some (.int .i64 x.b) ∧ w'.cell? ⟨w.heap.size, 3, none⟩ = some (.int .i64 x.c) ∧ Below (w.heap.size + 1) (w.alloc x.obj) w')
    (first
      | exact ⟨k0, k1, k2, k3, x0, x1, x2, x3, (Below.refl _ _).drew⟩
      | (go_split_ands; refine ⟨?_, ?_, ?_, ?_, ?_, ?_, ?_, ?_, ?_⟩ <;> first | (rw [hb2.cell (by first | (simp; done) | (have := HLT.out; simp; omega))]; assumption) | exact Below.trans (by assumption) (hb2.mono (by simp))))
    (first | (go_at_call 50; refine (ocheck_any _ s.c x).mono ?_; rintro e w2 ⟨rfl, hb2⟩; rw [HERR.out]))
  have HB2 : Hid (Below (w.heap.size + 1) (w.alloc x.obj) w2) := ((Below.refl (w.heap.size + 1) (w.alloc x.obj)).drew).trans (hb2.mono (by simp))
  have hS2 : StoAt w2 T b s gr kr vg vc := HS.out.below (by simpa using HB2.out)
  have HX2 : Hid (w2.heap[w.heap.size]? = some x.obj) := (HB2.out.block _ (by omega)).trans (heap_alloc_new w x.obj)
  have HS2 := Lib.hid hS2
  have HZ2 : Hid (w.heap.size < w2.heap.size) := by have := HB2.out.size; simp at this; unfold Hid; omega
  have HLR := Lib.hid hS2.lt
  rename_i hHeld
  clear hHeld hb2 k0 k1 k2 k3 x0 x1 x2 x3 d1 d2 HS
  obtain ⟨x0, x1, x2, x3⟩ := opr_cells HX2.out
  obtain ⟨c0, f0⟩ := hS2.rcell HM.out HA.out
  obtain ⟨c1, f1⟩ := hS2.rcell HM.out HB.out
  clear hS2 f1
  go_wp2_with fail
  go_region_held3 (fun w' => w'.cell? ⟨w.heap.size, 1, none⟩ = some (.int .i64 x.a) ∧ w'.cell? ⟨w.heap.size, 2, none⟩ = some (.int .i64 x.b) ∧ w'.cell? ⟨gr, s.ix m x.b, none⟩ = some (.int .u64 (s.reg m x.b)))
    (first
      | exact ⟨x1, x2, c1⟩
      | exact ⟨(World.cell?_setCell_far _ _ _ _ HNE.out).trans x1, (World.cell?_setCell_far _ _ _ _ HNE.out).trans x2, set_same c1⟩)
    (first
      | (go_at_call 52; refine (ireg_any _ T b s gr kr vg _ (by repeat (first | exact HS2.out | apply StoAt.drew | apply StoAt.drewN)) m _ HM.out (by first | exact HA.out | exact HB.out)).mono ?_; rintro e w3 ⟨rfl, n, rfl⟩))
  all_goals
    go_wp2_with fail
    go_ret
    exact ⟨rfl, ⟨gr, kr, vg, _, ((HS2.out.drewN _).setReg m x.a HM.out HA.out HW.out).wide (fun _ => Or.inl)⟩, ((do_keep HB2.out).drewN _).setCell (Or.inl HKT.out.1) _⟩
set_option maxHeartbeats 4000000 in
set_option maxRecDepth 100000 in
theorem ido_4n (w : World) (T : Nat → Prop) (b : Nat) (s : Sto) (gr kr : Nat) (vg vc : Value) (h : StoAt w T b s gr kr vg vc) (m : Int) (x : Opr) (full : Bool)
    (hm : 0 ≤ m ∧ m < s.c.muts) (herr : x.err s.c = 0) (hk : x.kind = 4) (h63 : x.b < 9223372036854775808) (hat : s.at_ (s.reg m x.b) = none) :
    Calls Tryd.prog 22 #[.pointer (some ⟨b, 0, none⟩), .int .i64 m, x.v, .bool full] w (DoPost w T b (s.did m x full)) := by
  obtain ⟨_, hr⟩ := right_of_err herr
  have HA : Hid (0 ≤ x.a ∧ x.a < s.c.regs) := hr.a (by omega)
  have HB : Hid (0 ≤ x.b ∧ x.b < s.c.regs) := hr.b (by omega) (by omega) (by omega)
  have HW : Hid (Wd s.cs.length (s.reg m x.b)) := h.ok.regW hm.1 hm.2 HB.out.1 HB.out.2
  have HAT := Lib.hid hat
  have HD : Hid (s.did m x full = (s, 4)) := by unfold Hid Sto.did; rw [if_neg (by omega), if_neg (by omega), if_neg (by omega), if_pos hk, hat]
  rw [HD.out]
  have HERR := Lib.hid herr
  have HS := Lib.hid (h.below ((Below.refl _ _).alloc (Nat.le_refl _) x.obj))
  have HLT := Lib.hid h.lt.1
  have HNE : Hid (gr ≠ w.heap.size) := by have := h.lt.2.1; unfold Hid; omega
  have HNB : Hid (b ≠ w.heap.size) := by have := h.lt.1; unfold Hid; omega
  have HKT : Hid (T gr ∧ T b) := ⟨h.tr, h.tb⟩
  obtain ⟨k0, k1, k2, k3, k4, k5, k6, kf⟩ := HS.out.hc
  obtain ⟨x0, x1, x2, x3⟩ := opr_cells (heap_alloc_new w x.obj)
  have d1 : decide (m < 0) = false := by simp; omega
  have d2 : decide (s.c.muts ≤ m) = false := by simp; omega
  have t1 : (x.kind == 1) = false := by rw [beq_eq_false_iff_ne]; omega
  have t2 : (x.kind == 2) = false := by rw [beq_eq_false_iff_ne]; omega
  have t3 : (x.kind == 3) = false := by rw [beq_eq_false_iff_ne]; omega
  have t4 : (x.kind == 4) = true := by rw [beq_iff_eq]; omega
  have HM := Lib.hid hm
  clear hat
  clear k4 k5 k6 kf h herr hr hm hk
  go_enter Tryd.func22, Tryd.ntmps22
  go_wp2_with fail
  go_region_held3 (fun w' => w'.cell? ⟨b, 0, none⟩ = some (.int .i64 s.c.cells) ∧ w'.cell? ⟨b, 1, none⟩ = some (.int .i64 s.c.muts) ∧ w'.cell? ⟨b, 2, none⟩ = some (.int .i64 s.c.regs) ∧ w'.cell? ⟨b, 3, none⟩ = some (.int .i64 s.c.globs) ∧ w'.cell? ⟨w.heap.size, 0, none⟩ = some (.int .i64 x.kind) ∧ w'.cell? ⟨w.heap.size, 1, none⟩ = some (.int .i64 x.a) ∧ w'.cell? ⟨w.heap.size, 2, none⟩ = some (.int .i64 x.b) ∧ w'.cell? ⟨w.heap.size, 3, none⟩ = some (.int .i64 x.c) ∧ Below (w.heap.size + 1) (w.alloc x.obj) w')
    (first
      | exact ⟨k0, k1, k2, k3, x0, x1, x2, x3, (Below.refl _ _).drew⟩
      | (go_split_ands; refine ⟨?_, ?_, ?_, ?_, ?_, ?_, ?_, ?_, ?_⟩ <;> first | (rw [hb2.cell (by first | (simp; done) | (have := HLT.out; simp; omega))]; assumption) | exact Below.trans (by assumption) (hb2.mono (by simp))))
    (first | (go_at_call 50; refine (ocheck_any _ s.c x).mono ?_; rintro e w2 ⟨rfl, hb2⟩; rw [HERR.out]))
  have HB2 : Hid (Below (w.heap.size + 1) (w.alloc x.obj) w2) := ((Below.refl (w.heap.size + 1) (w.alloc x.obj)).drew).trans (hb2.mono (by simp))
  have hS2 : StoAt w2 T b s gr kr vg vc := HS.out.below (by simpa using HB2.out)
  have HX2 : Hid (w2.heap[w.heap.size]? = some x.obj) := (HB2.out.block _ (by omega)).trans (heap_alloc_new w x.obj)
  have HS2 := Lib.hid hS2
  have HZ2 : Hid (w.heap.size < w2.heap.size) := by have := HB2.out.size; simp at this; unfold Hid; omega
  have HLR := Lib.hid hS2.lt
  rename_i hHeld
  clear hHeld hb2 k0 k1 k2 k3 x0 x1 x2 x3 d1 d2 HS
  obtain ⟨x0, x1, x2, x3⟩ := opr_cells HX2.out
  obtain ⟨c1, f1⟩ := hS2.rcell HM.out HB.out
  clear hS2 f1
  go_wp2_with (first
    | (go_at_call 52; refine (ireg_any _ T b s gr kr vg _ (by repeat (first | exact HS2.out | apply StoAt.drew | apply StoAt.drewN)) m _ HM.out (by first | exact HB.out)).mono ?_; rintro e w3 ⟨rfl, n0, rfl⟩)
    | (go_at_call 53; refine (iat_none _ T b s gr kr vg _ (by repeat (first | exact HS2.out | apply StoAt.drew | apply StoAt.drewN)) _ HW.out HAT.out).mono ?_; rintro e w3 ⟨rfl, rfl⟩))
  go_ret
  exact ⟨rfl, ⟨gr, kr, vg, _, (HS2.out.drewN _).wide (fun _ => Or.inl)⟩, (do_keep HB2.out).drewN _⟩
set_option maxHeartbeats 4000000 in
set_option maxRecDepth 100000 in
theorem ido_4s (w : World) (T : Nat → Prop) (b : Nat) (s : Sto) (gr kr : Nat) (vg vc : Value) (h : StoAt w T b s gr kr vg vc) (m : Int) (x : Opr) (full : Bool)
    (hm : 0 ≤ m ∧ m < s.c.muts) (herr : x.err s.c = 0) (hk : x.kind = 4) (h63 : x.b < 9223372036854775808) (i : Nat) (hat : s.at_ (s.reg m x.b) = some i) :
    Calls Tryd.prog 22 #[.pointer (some ⟨b, 0, none⟩), .int .i64 m, x.v, .bool full] w (DoPost w T b (s.did m x full)) := by
  obtain ⟨_, hr⟩ := right_of_err herr
  have HA : Hid (0 ≤ x.a ∧ x.a < s.c.regs) := hr.a (by omega)
  have HB : Hid (0 ≤ x.b ∧ x.b < s.c.regs) := hr.b (by omega) (by omega) (by omega)
  have HW : Hid (Wd s.cs.length (s.reg m x.b)) := h.ok.regW hm.1 hm.2 HB.out.1 HB.out.2
  have HAT := Lib.hid hat
  have HI : Hid (i < s.cs.length) := at_lt HW.out hat
  have HV : Hid (Wd s.cs.length (s.car i)) := (h.ok.cellW i).1
  have HU : Hid (Wd s.cs.length (s.car i)) := (h.ok.cellW i).1
  have HD : Hid (s.did m x full = (s.setReg m x.a (s.car i), 1)) := by unfold Hid Sto.did; rw [if_neg (by omega), if_neg (by omega), if_neg (by omega), if_pos hk, hat]
  rw [HD.out]
  have HERR := Lib.hid herr
  have HS := Lib.hid (h.below ((Below.refl _ _).alloc (Nat.le_refl _) x.obj))
  have HLT := Lib.hid h.lt.1
  have HNE : Hid (gr ≠ w.heap.size) := by have := h.lt.2.1; unfold Hid; omega
  have HNB : Hid (b ≠ w.heap.size) := by have := h.lt.1; unfold Hid; omega
  have HKT : Hid (T gr ∧ T b) := ⟨h.tr, h.tb⟩
  obtain ⟨k0, k1, k2, k3, k4, k5, k6, kf⟩ := HS.out.hc
  obtain ⟨x0, x1, x2, x3⟩ := opr_cells (heap_alloc_new w x.obj)
  have d1 : decide (m < 0) = false := by simp; omega
  have d2 : decide (s.c.muts ≤ m) = false := by simp; omega
  have t1 : (x.kind == 1) = false := by rw [beq_eq_false_iff_ne]; omega
  have t2 : (x.kind == 2) = false := by rw [beq_eq_false_iff_ne]; omega
  have t3 : (x.kind == 3) = false := by rw [beq_eq_false_iff_ne]; omega
  have t4 : (x.kind == 4) = true := by rw [beq_iff_eq]; omega
  have HM := Lib.hid hm
  clear hat
  clear k4 k5 k6 kf h herr hr hm hk
  go_enter Tryd.func22, Tryd.ntmps22
  go_wp2_with fail
  go_region_held3 (fun w' => w'.cell? ⟨b, 0, none⟩ = some (.int .i64 s.c.cells) ∧ w'.cell? ⟨b, 1, none⟩ = some (.int .i64 s.c.muts) ∧ w'.cell? ⟨b, 2, none⟩ = some (.int .i64 s.c.regs) ∧ w'.cell? ⟨b, 3, none⟩ = some (.int .i64 s.c.globs) ∧ w'.cell? ⟨w.heap.size, 0, none⟩ = some (.int .i64 x.kind) ∧ w'.cell? ⟨w.heap.size, 1, none⟩ = some (.int .i64 x.a) ∧ w'.cell? ⟨w.heap.size, 2, none⟩ = some (.int .i64 x.b) ∧ w'.cell? ⟨w.heap.size, 3, none⟩ = some (.int .i64 x.c) ∧ Below (w.heap.size + 1) (w.alloc x.obj) w')
    (first
      | exact ⟨k0, k1, k2, k3, x0, x1, x2, x3, (Below.refl _ _).drew⟩
      | (go_split_ands; refine ⟨?_, ?_, ?_, ?_, ?_, ?_, ?_, ?_, ?_⟩ <;> first | (rw [hb2.cell (by first | (simp; done) | (have := HLT.out; simp; omega))]; assumption) | exact Below.trans (by assumption) (hb2.mono (by simp))))
    (first | (go_at_call 50; refine (ocheck_any _ s.c x).mono ?_; rintro e w2 ⟨rfl, hb2⟩; rw [HERR.out]))
  have HB2 : Hid (Below (w.heap.size + 1) (w.alloc x.obj) w2) := ((Below.refl (w.heap.size + 1) (w.alloc x.obj)).drew).trans (hb2.mono (by simp))
  have hS2 : StoAt w2 T b s gr kr vg vc := HS.out.below (by simpa using HB2.out)
  have HX2 : Hid (w2.heap[w.heap.size]? = some x.obj) := (HB2.out.block _ (by omega)).trans (heap_alloc_new w x.obj)
  have HS2 := Lib.hid hS2
  have HZ2 : Hid (w.heap.size < w2.heap.size) := by have := HB2.out.size; simp at this; unfold Hid; omega
  have HLR := Lib.hid hS2.lt
  rename_i hHeld
  clear hHeld hb2 k0 k1 k2 k3 x0 x1 x2 x3 d1 d2 HS
  obtain ⟨x0, x1, x2, x3⟩ := opr_cells HX2.out
  obtain ⟨c1, f1⟩ := hS2.rcell HM.out HB.out
  obtain ⟨c0, f0⟩ := hS2.rcell HM.out HA.out
  obtain ⟨gc, kc, rfl, g0, g1, _, _, _, _, htc, _, hcr⟩ := hS2.ccell HI.out
  have HCR : Hid (gr ≠ gc) := fun e => hcr e.symm
  clear hS2 f1 htc hcr
  go_wp2_with (first
    | (go_at_call 52; refine (ireg_any _ T b s gr kr vg _ (by repeat (first | exact HS2.out | apply StoAt.drew | apply StoAt.drewN)) m _ HM.out (by first | exact HB.out)).mono ?_; rintro e w3 ⟨rfl, n0, rfl⟩)
    | (go_at_call 53; refine (iat_some _ T b s gr kr vg gc kc (by repeat (first | exact HS2.out | apply StoAt.drew | apply StoAt.drewN)) _ HW.out i HAT.out).mono ?_; rintro e w3 ⟨rfl, rfl⟩))
  go_region_held3 (fun w' => w'.cell? ⟨w.heap.size, 0, none⟩ = some (.int .i64 x.kind) ∧ w'.cell? ⟨w.heap.size, 1, none⟩ = some (.int .i64 x.a) ∧ w'.cell? ⟨gc, i * 2, none⟩ = some (.int .u64 (s.car i)) ∧ w'.cell? ⟨gc, i * 2 + 1, none⟩ = some (.int .u64 (s.cdr i)))
    (first
      | exact ⟨x0, x1, g0, g1⟩
      | exact ⟨(World.cell?_setCell_far _ _ _ _ HNE.out).trans x0, (World.cell?_setCell_far _ _ _ _ HNE.out).trans x1, (World.cell?_setCell_far _ _ _ _ HCR.out).trans g0, (World.cell?_setCell_far _ _ _ _ HCR.out).trans g1⟩)
    (first
      | (go_at_call 52; refine (ireg_any _ T b s gr kr vg _ (by repeat (first | exact HS2.out | apply StoAt.drew | apply StoAt.drewN)) m _ HM.out (by first | exact HA.out)).mono ?_; rintro e w3 ⟨rfl, n, rfl⟩))
  all_goals
    go_wp2_with fail
    go_ret
    exact ⟨rfl, ⟨gr, kr, vg, _, ((HS2.out.drewN _).setReg m x.a HM.out HA.out HV.out).wide (fun _ => Or.inl)⟩, ((do_keep HB2.out).drewN _).setCell (Or.inl HKT.out.1) _⟩
end Go.Proofs.YtipoklnoknkfhaaDoor
namespace Go.Proofs.YtipoklnoknkfhaaDoor
open Go Go.RowKit
set_option linter.unusedSimpArgs false
set_option linter.unusedVariables false

set_option maxHeartbeats 4000000 in
set_option maxRecDepth 100000 in
theorem ido_5n (w : World) (T : Nat → Prop) (b : Nat) (s : Sto) (gr kr : Nat) (vg vc : Value) (h : StoAt w T b s gr kr vg vc) (m : Int) (x : Opr) (full : Bool)
    (hm : 0 ≤ m ∧ m < s.c.muts) (herr : x.err s.c = 0) (hk : x.kind = 5) (h63 : x.b < 9223372036854775808) (hat : s.at_ (s.reg m x.b) = none) :
    Calls Tryd.prog 22 #[.pointer (some ⟨b, 0, none⟩), .int .i64 m, x.v, .bool full] w (DoPost w T b (s.did m x full)) := by
  obtain ⟨_, hr⟩ := right_of_err herr
  have HA : Hid (0 ≤ x.a ∧ x.a < s.c.regs) := hr.a (by omega)
  have HB : Hid (0 ≤ x.b ∧ x.b < s.c.regs) := hr.b (by omega) (by omega) (by omega)
  have HW : Hid (Wd s.cs.length (s.reg m x.b)) := h.ok.regW hm.1 hm.2 HB.out.1 HB.out.2
  have HAT := Lib.hid hat
  have HD : Hid (s.did m x full = (s, 4)) := by unfold Hid Sto.did; rw [if_neg (by omega), if_neg (by omega), if_neg (by omega), if_neg (by omega), if_pos hk, hat]
  rw [HD.out]
  have HERR := Lib.hid herr
  have HS := Lib.hid (h.below ((Below.refl _ _).alloc (Nat.le_refl _) x.obj))
  have HLT := Lib.hid h.lt.1
  have HNE : Hid (gr ≠ w.heap.size) := by have := h.lt.2.1; unfold Hid; omega
  have HNB : Hid (b ≠ w.heap.size) := by have := h.lt.1; unfold Hid; omega
  have HKT : Hid (T gr ∧ T b) := ⟨h.tr, h.tb⟩
  obtain ⟨k0, k1, k2, k3, k4, k5, k6, kf⟩ := HS.out.hc
  obtain ⟨x0, x1, x2, x3⟩ := opr_cells (heap_alloc_new w x.obj)
  have d1 : decide (m < 0) = false := by simp; omega
  have d2 : decide (s.c.muts ≤ m) = false := by simp; omega
  have t1 : (x.kind == 1) = false := by rw [beq_eq_false_iff_ne]; omega
  have t2 : (x.kind == 2) = false := by rw [beq_eq_false_iff_ne]; omega
  have t3 : (x.kind == 3) = false := by rw [beq_eq_false_iff_ne]; omega
  have t4 : (x.kind == 4) = false := by rw [beq_eq_false_iff_ne]; omega
  have t5 : (x.kind == 5) = true := by rw [beq_iff_eq]; omega
  have HM := Lib.hid hm
  clear hat
  clear k4 k5 k6 kf h herr hr hm hk
  go_enter Tryd.func22, Tryd.ntmps22
  go_wp2_with fail
  go_region_held3 (fun w' => w'.cell? ⟨b, 0, none⟩ = some (.int .i64 s.c.cells) ∧ w'.cell? ⟨b, 1, none⟩ = some (.int .i64 s.c.muts) ∧ w'.cell? ⟨b, 2, none⟩ = some (.int .i64 s.c.regs) ∧ w'.cell? ⟨b, 3, none⟩ = some (.int .i64 s.c.globs) ∧ w'.cell? ⟨w.heap.size, 0, none⟩ = some (.int .i64 x.kind) ∧ w'.cell? ⟨w.heap.size, 1, none⟩ = some (.int .i64 x.a) ∧ w'.cell? ⟨w.heap.size, 2, none⟩ = some (.int .i64 x.b) ∧ w'.cell? ⟨w.heap.size, 3, none⟩ = some (.int .i64 x.c) ∧ Below (w.heap.size + 1) (w.alloc x.obj) w')
    (first
      | exact ⟨k0, k1, k2, k3, x0, x1, x2, x3, (Below.refl _ _).drew⟩
      | (go_split_ands; refine ⟨?_, ?_, ?_, ?_, ?_, ?_, ?_, ?_, ?_⟩ <;> first | (rw [hb2.cell (by first | (simp; done) | (have := HLT.out; simp; omega))]; assumption) | exact Below.trans (by assumption) (hb2.mono (by simp))))
    (first | (go_at_call 50; refine (ocheck_any _ s.c x).mono ?_; rintro e w2 ⟨rfl, hb2⟩; rw [HERR.out]))
  have HB2 : Hid (Below (w.heap.size + 1) (w.alloc x.obj) w2) := ((Below.refl (w.heap.size + 1) (w.alloc x.obj)).drew).trans (hb2.mono (by simp))
  have hS2 : StoAt w2 T b s gr kr vg vc := HS.out.below (by simpa using HB2.out)
  have HX2 : Hid (w2.heap[w.heap.size]? = some x.obj) := (HB2.out.block _ (by omega)).trans (heap_alloc_new w x.obj)
  have HS2 := Lib.hid hS2
  have HZ2 : Hid (w.heap.size < w2.heap.size) := by have := HB2.out.size; simp at this; unfold Hid; omega
  have HLR := Lib.hid hS2.lt
  rename_i hHeld
  clear hHeld hb2 k0 k1 k2 k3 x0 x1 x2 x3 d1 d2 HS
  obtain ⟨x0, x1, x2, x3⟩ := opr_cells HX2.out
  obtain ⟨c1, f1⟩ := hS2.rcell HM.out HB.out
  clear hS2 f1
  go_wp2_with (first
    | (go_at_call 52; refine (ireg_any _ T b s gr kr vg _ (by repeat (first | exact HS2.out | apply StoAt.drew | apply StoAt.drewN)) m _ HM.out (by first | exact HB.out)).mono ?_; rintro e w3 ⟨rfl, n0, rfl⟩)
    | (go_at_call 53; refine (iat_none _ T b s gr kr vg _ (by repeat (first | exact HS2.out | apply StoAt.drew | apply StoAt.drewN)) _ HW.out HAT.out).mono ?_; rintro e w3 ⟨rfl, rfl⟩))
  go_ret
  exact ⟨rfl, ⟨gr, kr, vg, _, (HS2.out.drewN _).wide (fun _ => Or.inl)⟩, (do_keep HB2.out).drewN _⟩
set_option maxHeartbeats 4000000 in
set_option maxRecDepth 100000 in
theorem ido_5s (w : World) (T : Nat → Prop) (b : Nat) (s : Sto) (gr kr : Nat) (vg vc : Value) (h : StoAt w T b s gr kr vg vc) (m : Int) (x : Opr) (full : Bool)
    (hm : 0 ≤ m ∧ m < s.c.muts) (herr : x.err s.c = 0) (hk : x.kind = 5) (h63 : x.b < 9223372036854775808) (i : Nat) (hat : s.at_ (s.reg m x.b) = some i) :
    Calls Tryd.prog 22 #[.pointer (some ⟨b, 0, none⟩), .int .i64 m, x.v, .bool full] w (DoPost w T b (s.did m x full)) := by
  obtain ⟨_, hr⟩ := right_of_err herr
  have HA : Hid (0 ≤ x.a ∧ x.a < s.c.regs) := hr.a (by omega)
  have HB : Hid (0 ≤ x.b ∧ x.b < s.c.regs) := hr.b (by omega) (by omega) (by omega)
  have HW : Hid (Wd s.cs.length (s.reg m x.b)) := h.ok.regW hm.1 hm.2 HB.out.1 HB.out.2
  have HAT := Lib.hid hat
  have HI : Hid (i < s.cs.length) := at_lt HW.out hat
  have HV : Hid (Wd s.cs.length (s.cdr i)) := (h.ok.cellW i).2
  have HU : Hid (Wd s.cs.length (s.car i)) := (h.ok.cellW i).1
  have HD : Hid (s.did m x full = (s.setReg m x.a (s.cdr i), 1)) := by unfold Hid Sto.did; rw [if_neg (by omega), if_neg (by omega), if_neg (by omega), if_neg (by omega), if_pos hk, hat]
  rw [HD.out]
  have HERR := Lib.hid herr
  have HS := Lib.hid (h.below ((Below.refl _ _).alloc (Nat.le_refl _) x.obj))
  have HLT := Lib.hid h.lt.1
  have HNE : Hid (gr ≠ w.heap.size) := by have := h.lt.2.1; unfold Hid; omega
  have HNB : Hid (b ≠ w.heap.size) := by have := h.lt.1; unfold Hid; omega
  have HKT : Hid (T gr ∧ T b) := ⟨h.tr, h.tb⟩
  obtain ⟨k0, k1, k2, k3, k4, k5, k6, kf⟩ := HS.out.hc
  obtain ⟨x0, x1, x2, x3⟩ := opr_cells (heap_alloc_new w x.obj)
  have d1 : decide (m < 0) = false := by simp; omega
  have d2 : decide (s.c.muts ≤ m) = false := by simp; omega
  have t1 : (x.kind == 1) = false := by rw [beq_eq_false_iff_ne]; omega
  have t2 : (x.kind == 2) = false := by rw [beq_eq_false_iff_ne]; omega
  have t3 : (x.kind == 3) = false := by rw [beq_eq_false_iff_ne]; omega
  have t4 : (x.kind == 4) = false := by rw [beq_eq_false_iff_ne]; omega
  have t5 : (x.kind == 5) = true := by rw [beq_iff_eq]; omega
  have HM := Lib.hid hm
  clear hat
  clear k4 k5 k6 kf h herr hr hm hk
  go_enter Tryd.func22, Tryd.ntmps22
  go_wp2_with fail
  go_region_held3 (fun w' => w'.cell? ⟨b, 0, none⟩ = some (.int .i64 s.c.cells) ∧ w'.cell? ⟨b, 1, none⟩ = some (.int .i64 s.c.muts) ∧ w'.cell? ⟨b, 2, none⟩ = some (.int .i64 s.c.regs) ∧ w'.cell? ⟨b, 3, none⟩ = some (.int .i64 s.c.globs) ∧ w'.cell? ⟨w.heap.size, 0, none⟩ = some (.int .i64 x.kind) ∧ w'.cell? ⟨w.heap.size, 1, none⟩ = some (.int .i64 x.a) ∧ w'.cell? ⟨w.heap.size, 2, none⟩ = some (.int .i64 x.b) ∧ w'.cell? ⟨w.heap.size, 3, none⟩ = some (.int .i64 x.c) ∧ Below (w.heap.size + 1) (w.alloc x.obj) w')
    (first
      | exact ⟨k0, k1, k2, k3, x0, x1, x2, x3, (Below.refl _ _).drew⟩
      | (go_split_ands; refine ⟨?_, ?_, ?_, ?_, ?_, ?_, ?_, ?_, ?_⟩ <;> first | (rw [hb2.cell (by first | (simp; done) | (have := HLT.out; simp; omega))]; assumption) | exact Below.trans (by assumption) (hb2.mono (by simp))))
    (first | (go_at_call 50; refine (ocheck_any _ s.c x).mono ?_; rintro e w2 ⟨rfl, hb2⟩; rw [HERR.out]))
  have HB2 : Hid (Below (w.heap.size + 1) (w.alloc x.obj) w2) := ((Below.refl (w.heap.size + 1) (w.alloc x.obj)).drew).trans (hb2.mono (by simp))
  have hS2 : StoAt w2 T b s gr kr vg vc := HS.out.below (by simpa using HB2.out)
  have HX2 : Hid (w2.heap[w.heap.size]? = some x.obj) := (HB2.out.block _ (by omega)).trans (heap_alloc_new w x.obj)
  have HS2 := Lib.hid hS2
  have HZ2 : Hid (w.heap.size < w2.heap.size) := by have := HB2.out.size; simp at this; unfold Hid; omega
  have HLR := Lib.hid hS2.lt
  rename_i hHeld
  clear hHeld hb2 k0 k1 k2 k3 x0 x1 x2 x3 d1 d2 HS
  obtain ⟨x0, x1, x2, x3⟩ := opr_cells HX2.out
  obtain ⟨c1, f1⟩ := hS2.rcell HM.out HB.out
  obtain ⟨c0, f0⟩ := hS2.rcell HM.out HA.out
  obtain ⟨gc, kc, rfl, g0, g1, _, _, _, _, htc, _, hcr⟩ := hS2.ccell HI.out
  have HCR : Hid (gr ≠ gc) := fun e => hcr e.symm
  clear hS2 f1 htc hcr
  go_wp2_with (first
    | (go_at_call 52; refine (ireg_any _ T b s gr kr vg _ (by repeat (first | exact HS2.out | apply StoAt.drew | apply StoAt.drewN)) m _ HM.out (by first | exact HB.out)).mono ?_; rintro e w3 ⟨rfl, n0, rfl⟩)
    | (go_at_call 53; refine (iat_some _ T b s gr kr vg gc kc (by repeat (first | exact HS2.out | apply StoAt.drew | apply StoAt.drewN)) _ HW.out i HAT.out).mono ?_; rintro e w3 ⟨rfl, rfl⟩))
  go_region_held3 (fun w' => w'.cell? ⟨w.heap.size, 0, none⟩ = some (.int .i64 x.kind) ∧ w'.cell? ⟨w.heap.size, 1, none⟩ = some (.int .i64 x.a) ∧ w'.cell? ⟨gc, i * 2, none⟩ = some (.int .u64 (s.car i)) ∧ w'.cell? ⟨gc, i * 2 + 1, none⟩ = some (.int .u64 (s.cdr i)))
    (first
      | exact ⟨x0, x1, g0, g1⟩
      | exact ⟨(World.cell?_setCell_far _ _ _ _ HNE.out).trans x0, (World.cell?_setCell_far _ _ _ _ HNE.out).trans x1, (World.cell?_setCell_far _ _ _ _ HCR.out).trans g0, (World.cell?_setCell_far _ _ _ _ HCR.out).trans g1⟩)
    (first
      | (go_at_call 52; refine (ireg_any _ T b s gr kr vg _ (by repeat (first | exact HS2.out | apply StoAt.drew | apply StoAt.drewN)) m _ HM.out (by first | exact HA.out)).mono ?_; rintro e w3 ⟨rfl, n, rfl⟩))
  rename_i hHeld
  obtain ⟨y0, y1, y2, y3⟩ := hHeld
  have HS3 := Lib.hid ((HS2.out.drewN (n0 + 1 + n)).setReg m x.a HM.out HA.out HU.out)
  clear x0 x1 g0 g1
  go_wp2_with fail
  go_region_held3 (fun w' => w'.cell? ⟨w.heap.size, 0, none⟩ = some (.int .i64 x.kind) ∧ w'.cell? ⟨w.heap.size, 1, none⟩ = some (.int .i64 x.a) ∧ w'.cell? ⟨gc, i * 2, none⟩ = some (.int .u64 (s.car i)) ∧ w'.cell? ⟨gc, i * 2 + 1, none⟩ = some (.int .u64 (s.cdr i)))
    (first
      | exact ⟨y0, y1, y2, y3⟩
      | exact ⟨(World.cell?_setCell_far _ _ _ _ HNE.out).trans y0, (World.cell?_setCell_far _ _ _ _ HNE.out).trans y1, (World.cell?_setCell_far _ _ _ _ HCR.out).trans y2, (World.cell?_setCell_far _ _ _ _ HCR.out).trans y3⟩)
    (first
      | (go_at_call 52; refine (ireg_any _ T b (s.setReg m x.a (s.car i)) gr kr vg _ (by repeat (first | exact HS3.out | apply StoAt.drew | apply StoAt.drewN)) m _ HM.out (by first | exact HA.out)).mono ?_; rintro e w3 ⟨rfl, n, rfl⟩; rw [show (s.setReg m x.a (s.car i)).ix m x.a = s.ix m x.a from rfl]))
  all_goals
    go_wp2_with fail
    go_ret
    refine ⟨rfl, ⟨gr, kr, vg, .slice (some ⟨gc, 0, none⟩) s.cs.length kc, ?_⟩, ((((do_keep HB2.out).drewN _).setCell (Or.inl HKT.out.1) _).drewN _).setCell (Or.inl HKT.out.1) _⟩
    rw [← setReg_setReg s m x.a (s.car i) (s.cdr i)]
    exact ((HS3.out.drewN _).setReg m x.a HM.out HA.out HV.out).wide (fun _ => Or.inl)
end Go.Proofs.YtipoklnoknkfhaaDoor
namespace Go.Proofs.YtipoklnoknkfhaaDoor
open Go Go.RowKit
set_option linter.unusedSimpArgs false
set_option linter.unusedVariables false

set_option maxHeartbeats 4000000 in
set_option maxRecDepth 100000 in
theorem ido_6n (w : World) (T : Nat → Prop) (b : Nat) (s : Sto) (gr kr : Nat) (vg vc : Value) (h : StoAt w T b s gr kr vg vc) (m : Int) (x : Opr) (full : Bool)
    (hm : 0 ≤ m ∧ m < s.c.muts) (herr : x.err s.c = 0) (hk : x.kind = 6) (h63 : x.b < 9223372036854775808) (hat : s.at_ (s.reg m x.a) = none) :
    Calls Tryd.prog 22 #[.pointer (some ⟨b, 0, none⟩), .int .i64 m, x.v, .bool full] w (DoPost w T b (s.did m x full)) := by
  obtain ⟨_, hr⟩ := right_of_err herr
  have HA : Hid (0 ≤ x.a ∧ x.a < s.c.regs) := hr.a (by omega)
  have HB : Hid (0 ≤ x.b ∧ x.b < s.c.regs) := hr.b (by omega) (by omega) (by omega)
  have HW : Hid (Wd s.cs.length (s.reg m x.a)) := h.ok.regW hm.1 hm.2 HA.out.1 HA.out.2
  have HAT := Lib.hid hat
  have HD : Hid (s.did m x full = (s, 4)) := by unfold Hid Sto.did; rw [if_neg (by omega), if_neg (by omega), if_neg (by omega), if_neg (by omega), if_neg (by omega), if_pos hk, hat]
  rw [HD.out]
  have HERR := Lib.hid herr
  have HS := Lib.hid (h.below ((Below.refl _ _).alloc (Nat.le_refl _) x.obj))
  have HLT := Lib.hid h.lt.1
  have HNE : Hid (gr ≠ w.heap.size) := by have := h.lt.2.1; unfold Hid; omega
  have HNB : Hid (b ≠ w.heap.size) := by have := h.lt.1; unfold Hid; omega
  have HKT : Hid (T gr ∧ T b) := ⟨h.tr, h.tb⟩
  obtain ⟨k0, k1, k2, k3, k4, k5, k6, kf⟩ := HS.out.hc
  obtain ⟨x0, x1, x2, x3⟩ := opr_cells (heap_alloc_new w x.obj)
  have d1 : decide (m < 0) = false := by simp; omega
  have d2 : decide (s.c.muts ≤ m) = false := by simp; omega
  have t1 : (x.kind == 1) = false := by rw [beq_eq_false_iff_ne]; omega
  have t2 : (x.kind == 2) = false := by rw [beq_eq_false_iff_ne]; omega
  have t3 : (x.kind == 3) = false := by rw [beq_eq_false_iff_ne]; omega
  have t4 : (x.kind == 4) = false := by rw [beq_eq_false_iff_ne]; omega
  have t5 : (x.kind == 5) = false := by rw [beq_eq_false_iff_ne]; omega
  have t6 : (x.kind == 6) = true := by rw [beq_iff_eq]; omega
  have HM := Lib.hid hm
  clear hat
  clear k4 k5 k6 kf h herr hr hm hk
  go_enter Tryd.func22, Tryd.ntmps22
  go_wp2_with fail
  go_region_held3 (fun w' => w'.cell? ⟨b, 0, none⟩ = some (.int .i64 s.c.cells) ∧ w'.cell? ⟨b, 1, none⟩ = some (.int .i64 s.c.muts) ∧ w'.cell? ⟨b, 2, none⟩ = some (.int .i64 s.c.regs) ∧ w'.cell? ⟨b, 3, none⟩ = some (.int .i64 s.c.globs) ∧ w'.cell? ⟨w.heap.size, 0, none⟩ = some (.int .i64 x.kind) ∧ w'.cell? ⟨w.heap.size, 1, none⟩ = some (.int .i64 x.a) ∧ w'.cell? ⟨w.heap.size, 2, none⟩ = some (.int .i64 x.b) ∧ w'.cell? ⟨w.heap.size, 3, none⟩ = some (.int .i64 x.c) ∧ Below (w.heap.size + 1) (w.alloc x.obj) w')
    (first
      | exact ⟨k0, k1, k2, k3, x0, x1, x2, x3, (Below.refl _ _).drew⟩
      | (go_split_ands; refine ⟨?_, ?_, ?_, ?_, ?_, ?_, ?_, ?_, ?_⟩ <;> first | (rw [hb2.cell (by first | (simp; done) | (have := HLT.out; simp; omega))]; assumption) | exact Below.trans (by assumption) (hb2.mono (by simp))))
    (first | (go_at_call 50; refine (ocheck_any _ s.c x).mono ?_; rintro e w2 ⟨rfl, hb2⟩; rw [HERR.out]))
  have HB2 : Hid (Below (w.heap.size + 1) (w.alloc x.obj) w2) := ((Below.refl (w.heap.size + 1) (w.alloc x.obj)).drew).trans (hb2.mono (by simp))
  have hS2 : StoAt w2 T b s gr kr vg vc := HS.out.below (by simpa using HB2.out)
  have HX2 : Hid (w2.heap[w.heap.size]? = some x.obj) := (HB2.out.block _ (by omega)).trans (heap_alloc_new w x.obj)
  have HS2 := Lib.hid hS2
  have HZ2 : Hid (w.heap.size < w2.heap.size) := by have := HB2.out.size; simp at this; unfold Hid; omega
  have HLR := Lib.hid hS2.lt
  rename_i hHeld
  clear hHeld hb2 k0 k1 k2 k3 x0 x1 x2 x3 d1 d2 HS
  obtain ⟨x0, x1, x2, x3⟩ := opr_cells HX2.out
  obtain ⟨c1, f1⟩ := hS2.rcell HM.out HA.out
  clear hS2 f1
  go_wp2_with (first
    | (go_at_call 52; refine (ireg_any _ T b s gr kr vg _ (by repeat (first | exact HS2.out | apply StoAt.drew | apply StoAt.drewN)) m _ HM.out (by first | exact HA.out)).mono ?_; rintro e w3 ⟨rfl, n0, rfl⟩)
    | (go_at_call 53; refine (iat_none _ T b s gr kr vg _ (by repeat (first | exact HS2.out | apply StoAt.drew | apply StoAt.drewN)) _ HW.out HAT.out).mono ?_; rintro e w3 ⟨rfl, rfl⟩))
  go_ret
  exact ⟨rfl, ⟨gr, kr, vg, _, (HS2.out.drewN _).wide (fun _ => Or.inl)⟩, (do_keep HB2.out).drewN _⟩
set_option maxHeartbeats 4000000 in
set_option maxRecDepth 100000 in
theorem ido_6s (w : World) (T : Nat → Prop) (b : Nat) (s : Sto) (gr kr : Nat) (vg vc : Value) (h : StoAt w T b s gr kr vg vc) (m : Int) (x : Opr) (full : Bool)
    (hm : 0 ≤ m ∧ m < s.c.muts) (herr : x.err s.c = 0) (hk : x.kind = 6) (h63 : x.b < 9223372036854775808) (i : Nat) (hat : s.at_ (s.reg m x.a) = some i) :
    Calls Tryd.prog 22 #[.pointer (some ⟨b, 0, none⟩), .int .i64 m, x.v, .bool full] w (DoPost w T b (s.did m x full)) := by
  obtain ⟨_, hr⟩ := right_of_err herr
  have HA : Hid (0 ≤ x.a ∧ x.a < s.c.regs) := hr.a (by omega)
  have HB : Hid (0 ≤ x.b ∧ x.b < s.c.regs) := hr.b (by omega) (by omega) (by omega)
  have HW : Hid (Wd s.cs.length (s.reg m x.a)) := h.ok.regW hm.1 hm.2 HA.out.1 HA.out.2
  have HAT := Lib.hid hat
  have HI : Hid (i < s.cs.length) := at_lt HW.out hat
  have HV : Hid (Wd s.cs.length (s.reg m x.b)) := h.ok.regW hm.1 hm.2 HB.out.1 HB.out.2
  have HD : Hid (s.did m x full = (s.setCar i (s.reg m x.b), 1)) := by unfold Hid Sto.did; rw [if_neg (by omega), if_neg (by omega), if_neg (by omega), if_neg (by omega), if_neg (by omega), if_pos hk, hat]
  rw [HD.out]
  have HERR := Lib.hid herr
  have HS := Lib.hid (h.below ((Below.refl _ _).alloc (Nat.le_refl _) x.obj))
  have HLT := Lib.hid h.lt.1
  have HNE : Hid (gr ≠ w.heap.size) := by have := h.lt.2.1; unfold Hid; omega
  have HNB : Hid (b ≠ w.heap.size) := by have := h.lt.1; unfold Hid; omega
  have HKT : Hid (T gr ∧ T b) := ⟨h.tr, h.tb⟩
  obtain ⟨k0, k1, k2, k3, k4, k5, k6, kf⟩ := HS.out.hc
  obtain ⟨x0, x1, x2, x3⟩ := opr_cells (heap_alloc_new w x.obj)
  have d1 : decide (m < 0) = false := by simp; omega
  have d2 : decide (s.c.muts ≤ m) = false := by simp; omega
  have t1 : (x.kind == 1) = false := by rw [beq_eq_false_iff_ne]; omega
  have t2 : (x.kind == 2) = false := by rw [beq_eq_false_iff_ne]; omega
  have t3 : (x.kind == 3) = false := by rw [beq_eq_false_iff_ne]; omega
  have t4 : (x.kind == 4) = false := by rw [beq_eq_false_iff_ne]; omega
  have t5 : (x.kind == 5) = false := by rw [beq_eq_false_iff_ne]; omega
  have t6 : (x.kind == 6) = true := by rw [beq_iff_eq]; omega
  have HM := Lib.hid hm
  clear hat
  clear k4 k5 k6 kf h herr hr hm hk
  go_enter Tryd.func22, Tryd.ntmps22
  go_wp2_with fail
  go_region_held3 (fun w' => w'.cell? ⟨b, 0, none⟩ = some (.int .i64 s.c.cells) ∧ w'.cell? ⟨b, 1, none⟩ = some (.int .i64 s.c.muts) ∧ w'.cell? ⟨b, 2, none⟩ = some (.int .i64 s.c.regs) ∧ w'.cell? ⟨b, 3, none⟩ = some (.int .i64 s.c.globs) ∧ w'.cell? ⟨w.heap.size, 0, none⟩ = some (.int .i64 x.kind) ∧ w'.cell? ⟨w.heap.size, 1, none⟩ = some (.int .i64 x.a) ∧ w'.cell? ⟨w.heap.size, 2, none⟩ = some (.int .i64 x.b) ∧ w'.cell? ⟨w.heap.size, 3, none⟩ = some (.int .i64 x.c) ∧ Below (w.heap.size + 1) (w.alloc x.obj) w')
    (first
      | exact ⟨k0, k1, k2, k3, x0, x1, x2, x3, (Below.refl _ _).drew⟩
      | (go_split_ands; refine ⟨?_, ?_, ?_, ?_, ?_, ?_, ?_, ?_, ?_⟩ <;> first | (rw [hb2.cell (by first | (simp; done) | (have := HLT.out; simp; omega))]; assumption) | exact Below.trans (by assumption) (hb2.mono (by simp))))
    (first | (go_at_call 50; refine (ocheck_any _ s.c x).mono ?_; rintro e w2 ⟨rfl, hb2⟩; rw [HERR.out]))
  have HB2 : Hid (Below (w.heap.size + 1) (w.alloc x.obj) w2) := ((Below.refl (w.heap.size + 1) (w.alloc x.obj)).drew).trans (hb2.mono (by simp))
  have hS2 : StoAt w2 T b s gr kr vg vc := HS.out.below (by simpa using HB2.out)
  have HX2 : Hid (w2.heap[w.heap.size]? = some x.obj) := (HB2.out.block _ (by omega)).trans (heap_alloc_new w x.obj)
  have HS2 := Lib.hid hS2
  have HZ2 : Hid (w.heap.size < w2.heap.size) := by have := HB2.out.size; simp at this; unfold Hid; omega
  have HLR := Lib.hid hS2.lt
  rename_i hHeld
  clear hHeld hb2 k0 k1 k2 k3 x0 x1 x2 x3 d1 d2 HS
  obtain ⟨x0, x1, x2, x3⟩ := opr_cells HX2.out
  obtain ⟨c0, f0⟩ := hS2.rcell HM.out HA.out
  obtain ⟨c1, f1⟩ := hS2.rcell HM.out HB.out
  obtain ⟨gc, kc, rfl, g0, g1, y0, y1, hset, hset2, htc, _, _⟩ := hS2.ccell HI.out
  have HTC := Lib.hid htc
  clear hS2 f0 f1 htc hset hset2
  go_wp2_with (first
    | (go_at_call 52; refine (ireg_any _ T b s gr kr vg _ (by repeat (first | exact HS2.out | apply StoAt.drew | apply StoAt.drewN)) m _ HM.out (by first | exact HA.out | exact HB.out)).mono ?_; rintro e w3 ⟨rfl, n0, rfl⟩)
    | (go_at_call 53; refine (iat_some _ T b s gr kr vg gc kc (by repeat (first | exact HS2.out | apply StoAt.drew | apply StoAt.drewN)) _ HW.out i HAT.out).mono ?_; rintro e w3 ⟨rfl, rfl⟩))
  go_ret
  refine ⟨rfl, ⟨gr, kr, vg, .slice (some ⟨gc, 0, none⟩) s.cs.length kc, ?_⟩, ((do_keep HB2.out).drewN _).setCell (Or.inl HTC.out) _⟩
  obtain ⟨gc', kc', hv, _, _, _, _, hset, hset2, _⟩ := (HS2.out.drewN (_)).ccell HI.out
  simp at hv
  obtain ⟨rfl, rfl⟩ := hv
  exact ((hset _).resolve_right (fun hn => hn HV.out)).wide (fun _ => Or.inl)
set_option maxHeartbeats 4000000 in
set_option maxRecDepth 100000 in
theorem ido_7n (w : World) (T : Nat → Prop) (b : Nat) (s : Sto) (gr kr : Nat) (vg vc : Value) (h : StoAt w T b s gr kr vg vc) (m : Int) (x : Opr) (full : Bool)
    (hm : 0 ≤ m ∧ m < s.c.muts) (herr : x.err s.c = 0) (hk : x.kind = 7) (h63 : x.b < 9223372036854775808) (hat : s.at_ (s.reg m x.a) = none) :
    Calls Tryd.prog 22 #[.pointer (some ⟨b, 0, none⟩), .int .i64 m, x.v, .bool full] w (DoPost w T b (s.did m x full)) := by
  obtain ⟨_, hr⟩ := right_of_err herr
  have HA : Hid (0 ≤ x.a ∧ x.a < s.c.regs) := hr.a (by omega)
  have HB : Hid (0 ≤ x.b ∧ x.b < s.c.regs) := hr.b (by omega) (by omega) (by omega)
  have HW : Hid (Wd s.cs.length (s.reg m x.a)) := h.ok.regW hm.1 hm.2 HA.out.1 HA.out.2
  have HAT := Lib.hid hat
  have HD : Hid (s.did m x full = (s, 4)) := by unfold Hid Sto.did; rw [if_neg (by omega), if_neg (by omega), if_neg (by omega), if_neg (by omega), if_neg (by omega), if_neg (by omega), if_pos hk, hat]
  rw [HD.out]
  have HERR := Lib.hid herr
  have HS := Lib.hid (h.below ((Below.refl _ _).alloc (Nat.le_refl _) x.obj))
  have HLT := Lib.hid h.lt.1
  have HNE : Hid (gr ≠ w.heap.size) := by have := h.lt.2.1; unfold Hid; omega
  have HNB : Hid (b ≠ w.heap.size) := by have := h.lt.1; unfold Hid; omega
  have HKT : Hid (T gr ∧ T b) := ⟨h.tr, h.tb⟩
  obtain ⟨k0, k1, k2, k3, k4, k5, k6, kf⟩ := HS.out.hc
  obtain ⟨x0, x1, x2, x3⟩ := opr_cells (heap_alloc_new w x.obj)
  have d1 : decide (m < 0) = false := by simp; omega
  have d2 : decide (s.c.muts ≤ m) = false := by simp; omega
  have t1 : (x.kind == 1) = false := by rw [beq_eq_false_iff_ne]; omega
  have t2 : (x.kind == 2) = false := by rw [beq_eq_false_iff_ne]; omega
  have t3 : (x.kind == 3) = false := by rw [beq_eq_false_iff_ne]; omega
  have t4 : (x.kind == 4) = false := by rw [beq_eq_false_iff_ne]; omega
  have t5 : (x.kind == 5) = false := by rw [beq_eq_false_iff_ne]; omega
  have t6 : (x.kind == 6) = false := by rw [beq_eq_false_iff_ne]; omega
  have t7 : (x.kind == 7) = true := by rw [beq_iff_eq]; omega
  have HM := Lib.hid hm
  clear hat
  clear k4 k5 k6 kf h herr hr hm hk
  go_enter Tryd.func22, Tryd.ntmps22
  go_wp2_with fail
  go_region_held3 (fun w' => w'.cell? ⟨b, 0, none⟩ = some (.int .i64 s.c.cells) ∧ w'.cell? ⟨b, 1, none⟩ = some (.int .i64 s.c.muts) ∧ w'.cell? ⟨b, 2, none⟩ = some (.int .i64 s.c.regs) ∧ w'.cell? ⟨b, 3, none⟩ = some (.int .i64 s.c.globs) ∧ w'.cell? ⟨w.heap.size, 0, none⟩ = some (.int .i64 x.kind) ∧ w'.cell? ⟨w.heap.size, 1, none⟩ = some (.int .i64 x.a) ∧ w'.cell? ⟨w.heap.size, 2, none⟩ = some (.int .i64 x.b) ∧ w'.cell? ⟨w.heap.size, 3, none⟩ = some (.int .i64 x.c) ∧ Below (w.heap.size + 1) (w.alloc x.obj) w')
    (first
      | exact ⟨k0, k1, k2, k3, x0, x1, x2, x3, (Below.refl _ _).drew⟩
      | (go_split_ands; refine ⟨?_, ?_, ?_, ?_, ?_, ?_, ?_, ?_, ?_⟩ <;> first | (rw [hb2.cell (by first | (simp; done) | (have := HLT.out; simp; omega))]; assumption) | exact Below.trans (by assumption) (hb2.mono (by simp))))
    (first | (go_at_call 50; refine (ocheck_any _ s.c x).mono ?_; rintro e w2 ⟨rfl, hb2⟩; rw [HERR.out]))
  have HB2 : Hid (Below (w.heap.size + 1) (w.alloc x.obj) w2) := ((Below.refl (w.heap.size + 1) (w.alloc x.obj)).drew).trans (hb2.mono (by simp))
  have hS2 : StoAt w2 T b s gr kr vg vc := HS.out.below (by simpa using HB2.out)
  have HX2 : Hid (w2.heap[w.heap.size]? = some x.obj) := (HB2.out.block _ (by omega)).trans (heap_alloc_new w x.obj)
  have HS2 := Lib.hid hS2
  have HZ2 : Hid (w.heap.size < w2.heap.size) := by have := HB2.out.size; simp at this; unfold Hid; omega
  have HLR := Lib.hid hS2.lt
  rename_i hHeld
  clear hHeld hb2 k0 k1 k2 k3 x0 x1 x2 x3 d1 d2 HS
  obtain ⟨x0, x1, x2, x3⟩ := opr_cells HX2.out
  obtain ⟨c1, f1⟩ := hS2.rcell HM.out HA.out
  clear hS2 f1
  go_wp2_with (first
    | (go_at_call 52; refine (ireg_any _ T b s gr kr vg _ (by repeat (first | exact HS2.out | apply StoAt.drew | apply StoAt.drewN)) m _ HM.out (by first | exact HA.out)).mono ?_; rintro e w3 ⟨rfl, n0, rfl⟩)
    | (go_at_call 53; refine (iat_none _ T b s gr kr vg _ (by repeat (first | exact HS2.out | apply StoAt.drew | apply StoAt.drewN)) _ HW.out HAT.out).mono ?_; rintro e w3 ⟨rfl, rfl⟩))
  go_ret
  exact ⟨rfl, ⟨gr, kr, vg, _, (HS2.out.drewN _).wide (fun _ => Or.inl)⟩, (do_keep HB2.out).drewN _⟩
set_option maxHeartbeats 4000000 in
set_option maxRecDepth 100000 in
theorem ido_7s (w : World) (T : Nat → Prop) (b : Nat) (s : Sto) (gr kr : Nat) (vg vc : Value) (h : StoAt w T b s gr kr vg vc) (m : Int) (x : Opr) (full : Bool)
    (hm : 0 ≤ m ∧ m < s.c.muts) (herr : x.err s.c = 0) (hk : x.kind = 7) (h63 : x.b < 9223372036854775808) (i : Nat) (hat : s.at_ (s.reg m x.a) = some i) :
    Calls Tryd.prog 22 #[.pointer (some ⟨b, 0, none⟩), .int .i64 m, x.v, .bool full] w (DoPost w T b (s.did m x full)) := by
  obtain ⟨_, hr⟩ := right_of_err herr
  have HA : Hid (0 ≤ x.a ∧ x.a < s.c.regs) := hr.a (by omega)
  have HB : Hid (0 ≤ x.b ∧ x.b < s.c.regs) := hr.b (by omega) (by omega) (by omega)
  have HW : Hid (Wd s.cs.length (s.reg m x.a)) := h.ok.regW hm.1 hm.2 HA.out.1 HA.out.2
  have HAT := Lib.hid hat
  have HI : Hid (i < s.cs.length) := at_lt HW.out hat
  have HV : Hid (Wd s.cs.length (s.reg m x.b)) := h.ok.regW hm.1 hm.2 HB.out.1 HB.out.2
  have HD : Hid (s.did m x full = (s.setCdr i (s.reg m x.b), 1)) := by unfold Hid Sto.did; rw [if_neg (by omega), if_neg (by omega), if_neg (by omega), if_neg (by omega), if_neg (by omega), if_neg (by omega), if_pos hk, hat]
  rw [HD.out]
  have HERR := Lib.hid herr
  have HS := Lib.hid (h.below ((Below.refl _ _).alloc (Nat.le_refl _) x.obj))
  have HLT := Lib.hid h.lt.1
  have HNE : Hid (gr ≠ w.heap.size) := by have := h.lt.2.1; unfold Hid; omega
  have HNB : Hid (b ≠ w.heap.size) := by have := h.lt.1; unfold Hid; omega
  have HKT : Hid (T gr ∧ T b) := ⟨h.tr, h.tb⟩
  obtain ⟨k0, k1, k2, k3, k4, k5, k6, kf⟩ := HS.out.hc
  obtain ⟨x0, x1, x2, x3⟩ := opr_cells (heap_alloc_new w x.obj)
  have d1 : decide (m < 0) = false := by simp; omega
  have d2 : decide (s.c.muts ≤ m) = false := by simp; omega
  have t1 : (x.kind == 1) = false := by rw [beq_eq_false_iff_ne]; omega
  have t2 : (x.kind == 2) = false := by rw [beq_eq_false_iff_ne]; omega
  have t3 : (x.kind == 3) = false := by rw [beq_eq_false_iff_ne]; omega
  have t4 : (x.kind == 4) = false := by rw [beq_eq_false_iff_ne]; omega
  have t5 : (x.kind == 5) = false := by rw [beq_eq_false_iff_ne]; omega
  have t6 : (x.kind == 6) = false := by rw [beq_eq_false_iff_ne]; omega
  have t7 : (x.kind == 7) = true := by rw [beq_iff_eq]; omega
  have HM := Lib.hid hm
  clear hat
  clear k4 k5 k6 kf h herr hr hm hk
  go_enter Tryd.func22, Tryd.ntmps22
  go_wp2_with fail
  go_region_held3 (fun w' => w'.cell? ⟨b, 0, none⟩ = some (.int .i64 s.c.cells) ∧ w'.cell? ⟨b, 1, none⟩ = some (.int .i64 s.c.muts) ∧ w'.cell? ⟨b, 2, none⟩ = some (.int .i64 s.c.regs) ∧ w'.cell? ⟨b, 3, none⟩ = some (.int .i64 s.c.globs) ∧ w'.cell? ⟨w.heap.size, 0, none⟩ = some (.int .i64 x.kind) ∧ w'.cell? ⟨w.heap.size, 1, none⟩ = some (.int .i64 x.a) ∧ w'.cell? ⟨w.heap.size, 2, none⟩ = some (.int .i64 x.b) ∧ w'.cell? ⟨w.heap.size, 3, none⟩ = some (.int .i64 x.c) ∧ Below (w.heap.size + 1) (w.alloc x.obj) w')
    (first
      | exact ⟨k0, k1, k2, k3, x0, x1, x2, x3, (Below.refl _ _).drew⟩
      | (go_split_ands; refine ⟨?_, ?_, ?_, ?_, ?_, ?_, ?_, ?_, ?_⟩ <;> first | (rw [hb2.cell (by first | (simp; done) | (have := HLT.out; simp; omega))]; assumption) | exact Below.trans (by assumption) (hb2.mono (by simp))))
    (first | (go_at_call 50; refine (ocheck_any _ s.c x).mono ?_; rintro e w2 ⟨rfl, hb2⟩; rw [HERR.out]))
  have HB2 : Hid (Below (w.heap.size + 1) (w.alloc x.obj) w2) := ((Below.refl (w.heap.size + 1) (w.alloc x.obj)).drew).trans (hb2.mono (by simp))
  have hS2 : StoAt w2 T b s gr kr vg vc := HS.out.below (by simpa using HB2.out)
  have HX2 : Hid (w2.heap[w.heap.size]? = some x.obj) := (HB2.out.block _ (by omega)).trans (heap_alloc_new w x.obj)
  have HS2 := Lib.hid hS2
  have HZ2 : Hid (w.heap.size < w2.heap.size) := by have := HB2.out.size; simp at this; unfold Hid; omega
  have HLR := Lib.hid hS2.lt
  rename_i hHeld
  clear hHeld hb2 k0 k1 k2 k3 x0 x1 x2 x3 d1 d2 HS
  obtain ⟨x0, x1, x2, x3⟩ := opr_cells HX2.out
  obtain ⟨c0, f0⟩ := hS2.rcell HM.out HA.out
  obtain ⟨c1, f1⟩ := hS2.rcell HM.out HB.out
  obtain ⟨gc, kc, rfl, g0, g1, y0, y1, hset, hset2, htc, _, _⟩ := hS2.ccell HI.out
  have HTC := Lib.hid htc
  clear hS2 f0 f1 htc hset hset2
  go_wp2_with (first
    | (go_at_call 52; refine (ireg_any _ T b s gr kr vg _ (by repeat (first | exact HS2.out | apply StoAt.drew | apply StoAt.drewN)) m _ HM.out (by first | exact HA.out | exact HB.out)).mono ?_; rintro e w3 ⟨rfl, n0, rfl⟩)
    | (go_at_call 53; refine (iat_some _ T b s gr kr vg gc kc (by repeat (first | exact HS2.out | apply StoAt.drew | apply StoAt.drewN)) _ HW.out i HAT.out).mono ?_; rintro e w3 ⟨rfl, rfl⟩))
  go_ret
  refine ⟨rfl, ⟨gr, kr, vg, .slice (some ⟨gc, 0, none⟩) s.cs.length kc, ?_⟩, ((do_keep HB2.out).drewN _).setCell (Or.inl HTC.out) _⟩
  obtain ⟨gc', kc', hv, _, _, _, _, hset, hset2, _⟩ := (HS2.out.drewN (_)).ccell HI.out
  simp at hv
  obtain ⟨rfl, rfl⟩ := hv
  exact ((hset2 _).resolve_right (fun hn => hn HV.out)).wide (fun _ => Or.inl)
end Go.Proofs.YtipoklnoknkfhaaDoor
namespace Go.Proofs.YtipoklnoknkfhaaDoor
open Go Go.RowKit
set_option linter.unusedSimpArgs false
set_option linter.unusedVariables false

set_option maxHeartbeats 4000000 in
set_option maxRecDepth 100000 in
theorem ido_8 (w : World) (T : Nat → Prop) (b : Nat) (s : Sto) (gr kr : Nat) (vg vc : Value) (h : StoAt w T b s gr kr vg vc) (m : Int) (x : Opr) (full : Bool)
    (hm : 0 ≤ m ∧ m < s.c.muts) (herr : x.err s.c = 0) (hk : x.kind = 8) (h63 : x.b < 9223372036854775808) :
    Calls Tryd.prog 22 #[.pointer (some ⟨b, 0, none⟩), .int .i64 m, x.v, .bool full] w (DoPost w T b (s.did m x full)) := by
  obtain ⟨_, hr⟩ := right_of_err herr
  have HA : Hid (0 ≤ x.a ∧ x.a < s.c.regs) := hr.a (by omega)
  have HG : Hid (0 ≤ x.b ∧ x.b < s.c.globs) := hr.gb hk
  have HW : Hid (Wd s.cs.length (wd s.gs x.b.toNat)) := h.ok.globW HG.out.1 HG.out.2
  have hgl := h.ok.gl
  have b1 : 0 ≤ x.b := HG.out.1
  have b2 : x.b < (s.gs.length : Int) := by have := HG.out; omega
  have HD : Hid (s.did m x full = (s.setReg m x.a (wd s.gs x.b.toNat), 1)) := by unfold Hid Sto.did; rw [if_neg (by omega), if_neg (by omega), if_neg (by omega), if_neg (by omega), if_neg (by omega), if_neg (by omega), if_neg (by omega), if_pos hk]
  rw [HD.out]
  have HERR := Lib.hid herr
  have HS := Lib.hid (h.below ((Below.refl _ _).alloc (Nat.le_refl _) x.obj))
  have HLT := Lib.hid h.lt.1
  have HNE : Hid (gr ≠ w.heap.size) := by have := h.lt.2.1; unfold Hid; omega
  have HNB : Hid (b ≠ w.heap.size) := by have := h.lt.1; unfold Hid; omega
  have HKT : Hid (T gr ∧ T b) := ⟨h.tr, h.tb⟩
  obtain ⟨k0, k1, k2, k3, k4, k5, k6, kf⟩ := HS.out.hc
  obtain ⟨x0, x1, x2, x3⟩ := opr_cells (heap_alloc_new w x.obj)
  have d1 : decide (m < 0) = false := by simp; omega
  have d2 : decide (s.c.muts ≤ m) = false := by simp; omega
  have t1 : (x.kind == 1) = false := by rw [beq_eq_false_iff_ne]; omega
  have t2 : (x.kind == 2) = false := by rw [beq_eq_false_iff_ne]; omega
  have t3 : (x.kind == 3) = false := by rw [beq_eq_false_iff_ne]; omega
  have t4 : (x.kind == 4) = false := by rw [beq_eq_false_iff_ne]; omega
  have t5 : (x.kind == 5) = false := by rw [beq_eq_false_iff_ne]; omega
  have t6 : (x.kind == 6) = false := by rw [beq_eq_false_iff_ne]; omega
  have t7 : (x.kind == 7) = false := by rw [beq_eq_false_iff_ne]; omega
  have t8 : (x.kind == 8) = true := by rw [beq_iff_eq]; omega
  have HM := Lib.hid hm
  clear hgl
  clear k4 k5 k6 kf h herr hr hm hk
  go_enter Tryd.func22, Tryd.ntmps22
  go_wp2_with fail
  go_region_held3 (fun w' => w'.cell? ⟨b, 0, none⟩ = some (.int .i64 s.c.cells) ∧ w'.cell? ⟨b, 1, none⟩ = some (.int .i64 s.c.muts) ∧ w'.cell? ⟨b, 2, none⟩ = some (.int .i64 s.c.regs) ∧ w'.cell? ⟨b, 3, none⟩ = some (.int .i64 s.c.globs) ∧ w'.cell? ⟨w.heap.size, 0, none⟩ = some (.int .i64 x.kind) ∧ w'.cell? ⟨w.heap.size, 1, none⟩ = some (.int .i64 x.a) ∧ w'.cell? ⟨w.heap.size, 2, none⟩ = some (.int .i64 x.b) ∧ w'.cell? ⟨w.heap.size, 3, none⟩ = some (.int .i64 x.c) ∧ Below (w.heap.size + 1) (w.alloc x.obj) w')
    (first
      | exact ⟨k0, k1, k2, k3, x0, x1, x2, x3, (Below.refl _ _).drew⟩
      | (go_split_ands; refine ⟨?_, ?_, ?_, ?_, ?_, ?_, ?_, ?_, ?_⟩ <;> first | (rw [hb2.cell (by first | (simp; done) | (have := HLT.out; simp; omega))]; assumption) | exact Below.trans (by assumption) (hb2.mono (by simp))))
    (first | (go_at_call 50; refine (ocheck_any _ s.c x).mono ?_; rintro e w2 ⟨rfl, hb2⟩; rw [HERR.out]))
  have HB2 : Hid (Below (w.heap.size + 1) (w.alloc x.obj) w2) := ((Below.refl (w.heap.size + 1) (w.alloc x.obj)).drew).trans (hb2.mono (by simp))
  have hS2 : StoAt w2 T b s gr kr vg vc := HS.out.below (by simpa using HB2.out)
  have HX2 : Hid (w2.heap[w.heap.size]? = some x.obj) := (HB2.out.block _ (by omega)).trans (heap_alloc_new w x.obj)
  have HS2 := Lib.hid hS2
  have HZ2 : Hid (w.heap.size < w2.heap.size) := by have := HB2.out.size; simp at this; unfold Hid; omega
  have HLR := Lib.hid hS2.lt
  rename_i hHeld
  clear hHeld hb2 k0 k1 k2 k3 x0 x1 x2 x3 d1 d2 HS
  obtain ⟨x0, x1, x2, x3⟩ := opr_cells HX2.out
  obtain ⟨c0, f0⟩ := hS2.rcell HM.out HA.out
  obtain ⟨_, _, _, _, _, k5, _, _⟩ := hS2.hc
  obtain ⟨gg, kg, rfl, g0, _, _, _, hgb, hgr⟩ := hS2.gcell HG.out
  have HGR : Hid (gr ≠ gg) := fun e => hgr e.symm
  have HBR : Hid (gr ≠ b) := hS2.br
  clear hS2 hgb hgr
  go_wp2_with fail
  go_region_held3 (fun w' => w'.cell? ⟨w.heap.size, 1, none⟩ = some (.int .i64 x.a) ∧ w'.cell? ⟨w.heap.size, 2, none⟩ = some (.int .i64 x.b) ∧ w'.cell? ⟨b, 5, none⟩ = some (.slice (some ⟨gg, 0, none⟩) s.gs.length kg) ∧ w'.cell? ⟨gg, x.b.toNat, none⟩ = some (.int .u64 (wd s.gs x.b.toNat)))
    (first
      | exact ⟨x1, x2, k5, g0⟩
      | exact ⟨(World.cell?_setCell_far _ _ _ _ HNE.out).trans x1, (World.cell?_setCell_far _ _ _ _ HNE.out).trans x2, (World.cell?_setCell_far _ _ _ _ HBR.out).trans k5, (World.cell?_setCell_far _ _ _ _ HGR.out).trans g0⟩)
    (first
      | (go_at_call 52; refine (ireg_any _ T b s gr kr _ _ (by repeat (first | exact HS2.out | apply StoAt.drew | apply StoAt.drewN)) m _ HM.out (by first | exact HA.out)).mono ?_; rintro e w3 ⟨rfl, n, rfl⟩))
  all_goals
    go_wp2_with fail
    go_ret
    exact ⟨rfl, ⟨gr, kr, _, _, ((HS2.out.drewN _).setReg m x.a HM.out HA.out HW.out).wide (fun _ => Or.inl)⟩, ((do_keep HB2.out).drewN _).setCell (Or.inl HKT.out.1) _⟩
set_option maxHeartbeats 4000000 in
set_option maxRecDepth 100000 in
theorem ido_9 (w : World) (T : Nat → Prop) (b : Nat) (s : Sto) (gr kr : Nat) (vg vc : Value) (h : StoAt w T b s gr kr vg vc) (m : Int) (x : Opr) (full : Bool)
    (hm : 0 ≤ m ∧ m < s.c.muts) (herr : x.err s.c = 0) (hk : x.kind = 9) (h63 : x.b < 9223372036854775808) :
    Calls Tryd.prog 22 #[.pointer (some ⟨b, 0, none⟩), .int .i64 m, x.v, .bool full] w (DoPost w T b (s.did m x full)) := by
  obtain ⟨_, hr⟩ := right_of_err herr
  have HG : Hid (0 ≤ x.a ∧ x.a < s.c.globs) := hr.ga hk
  have HB : Hid (0 ≤ x.b ∧ x.b < s.c.regs) := hr.b (by omega) (by omega) (by omega)
  have HW : Hid (Wd s.cs.length (s.reg m x.b)) := h.ok.regW hm.1 hm.2 HB.out.1 HB.out.2
  have hgl := h.ok.gl
  have b1 : 0 ≤ x.a := HG.out.1
  have b2 : x.a < (s.gs.length : Int) := by have := HG.out; omega
  have HD : Hid (s.did m x full = ({ s with gs := s.gs.set x.a.toNat (s.reg m x.b) }, 1)) := by unfold Hid Sto.did; rw [if_neg (by omega), if_neg (by omega), if_neg (by omega), if_neg (by omega), if_neg (by omega), if_neg (by omega), if_neg (by omega), if_neg (by omega), if_pos hk]
  rw [HD.out]
  have HERR := Lib.hid herr
  have HS := Lib.hid (h.below ((Below.refl _ _).alloc (Nat.le_refl _) x.obj))
  have HLT := Lib.hid h.lt.1
  have HNE : Hid (gr ≠ w.heap.size) := by have := h.lt.2.1; unfold Hid; omega
  have HNB : Hid (b ≠ w.heap.size) := by have := h.lt.1; unfold Hid; omega
  have HKT : Hid (T gr ∧ T b) := ⟨h.tr, h.tb⟩
  obtain ⟨k0, k1, k2, k3, k4, k5, k6, kf⟩ := HS.out.hc
  obtain ⟨x0, x1, x2, x3⟩ := opr_cells (heap_alloc_new w x.obj)
  have d1 : decide (m < 0) = false := by simp; omega
  have d2 : decide (s.c.muts ≤ m) = false := by simp; omega
  have t1 : (x.kind == 1) = false := by rw [beq_eq_false_iff_ne]; omega
  have t2 : (x.kind == 2) = false := by rw [beq_eq_false_iff_ne]; omega
  have t3 : (x.kind == 3) = false := by rw [beq_eq_false_iff_ne]; omega
  have t4 : (x.kind == 4) = false := by rw [beq_eq_false_iff_ne]; omega
  have t5 : (x.kind == 5) = false := by rw [beq_eq_false_iff_ne]; omega
  have t6 : (x.kind == 6) = false := by rw [beq_eq_false_iff_ne]; omega
  have t7 : (x.kind == 7) = false := by rw [beq_eq_false_iff_ne]; omega
  have t8 : (x.kind == 8) = false := by rw [beq_eq_false_iff_ne]; omega
  have t9 : (x.kind == 9) = true := by rw [beq_iff_eq]; omega
  have HM := Lib.hid hm
  clear hgl
  clear k4 k5 k6 kf h herr hr hm hk
  go_enter Tryd.func22, Tryd.ntmps22
  go_wp2_with fail
  go_region_held3 (fun w' => w'.cell? ⟨b, 0, none⟩ = some (.int .i64 s.c.cells) ∧ w'.cell? ⟨b, 1, none⟩ = some (.int .i64 s.c.muts) ∧ w'.cell? ⟨b, 2, none⟩ = some (.int .i64 s.c.regs) ∧ w'.cell? ⟨b, 3, none⟩ = some (.int .i64 s.c.globs) ∧ w'.cell? ⟨w.heap.size, 0, none⟩ = some (.int .i64 x.kind) ∧ w'.cell? ⟨w.heap.size, 1, none⟩ = some (.int .i64 x.a) ∧ w'.cell? ⟨w.heap.size, 2, none⟩ = some (.int .i64 x.b) ∧ w'.cell? ⟨w.heap.size, 3, none⟩ = some (.int .i64 x.c) ∧ Below (w.heap.size + 1) (w.alloc x.obj) w')
    (first
      | exact ⟨k0, k1, k2, k3, x0, x1, x2, x3, (Below.refl _ _).drew⟩
      | (go_split_ands; refine ⟨?_, ?_, ?_, ?_, ?_, ?_, ?_, ?_, ?_⟩ <;> first | (rw [hb2.cell (by first | (simp; done) | (have := HLT.out; simp; omega))]; assumption) | exact Below.trans (by assumption) (hb2.mono (by simp))))
    (first | (go_at_call 50; refine (ocheck_any _ s.c x).mono ?_; rintro e w2 ⟨rfl, hb2⟩; rw [HERR.out]))
  have HB2 : Hid (Below (w.heap.size + 1) (w.alloc x.obj) w2) := ((Below.refl (w.heap.size + 1) (w.alloc x.obj)).drew).trans (hb2.mono (by simp))
  have hS2 : StoAt w2 T b s gr kr vg vc := HS.out.below (by simpa using HB2.out)
  have HX2 : Hid (w2.heap[w.heap.size]? = some x.obj) := (HB2.out.block _ (by omega)).trans (heap_alloc_new w x.obj)
  have HS2 := Lib.hid hS2
  have HZ2 : Hid (w.heap.size < w2.heap.size) := by have := HB2.out.size; simp at this; unfold Hid; omega
  have HLR := Lib.hid hS2.lt
  rename_i hHeld
  clear hHeld hb2 k0 k1 k2 k3 x0 x1 x2 x3 d1 d2 HS
  obtain ⟨x0, x1, x2, x3⟩ := opr_cells HX2.out
  obtain ⟨c1, f1⟩ := hS2.rcell HM.out HB.out
  obtain ⟨_, _, _, _, _, k5, _, _⟩ := hS2.hc
  obtain ⟨gg, kg, rfl, g0, y0, _, htg, hgb, hgr⟩ := hS2.gcell HG.out
  have HGR : Hid (gg ≠ gr) := hgr
  have HGB : Hid (gg ≠ b) := hgb
  have HTG := Lib.hid htg
  have HGN : Hid (gg ≠ w.heap.size) := by
    have := HLR.out.2.2.1 gg rfl
    intro e
    have h1 := HX2.out
    rw [← e] at h1
    have h2 := HS2.out.g
    obtain ⟨g', kk, cur, hv, _, hg, _⟩ := h2.block (by have := HG.out; omega)
    simp at hv
    obtain ⟨rfl, rfl⟩ := hv
    rw [h1] at hg
    cases hg
  clear hS2 hgb hgr htg f1
  go_wp2_with fail
  go_region_held3 (fun w' => w'.cell? ⟨w.heap.size, 1, none⟩ = some (.int .i64 x.a) ∧ w'.cell? ⟨w.heap.size, 2, none⟩ = some (.int .i64 x.b) ∧ w'.cell? ⟨b, 5, none⟩ = some (.slice (some ⟨gg, 0, none⟩) s.gs.length kg) ∧ w'.cell? ⟨gr, s.ix m x.b, none⟩ = some (.int .u64 (s.reg m x.b)))
    (first
      | exact ⟨x1, x2, k5, c1⟩
      | exact ⟨(World.cell?_setCell_far _ _ _ _ HGN.out).trans x1, (World.cell?_setCell_far _ _ _ _ HGN.out).trans x2, (World.cell?_setCell_far _ _ _ _ HGB.out).trans k5, (World.cell?_setCell_far _ _ _ _ HGR.out).trans c1⟩)
    (first
      | (go_at_call 52; refine (ireg_any _ T b s gr kr _ _ (by repeat (first | exact HS2.out | apply StoAt.drew | apply StoAt.drewN)) m _ HM.out (by first | exact HB.out)).mono ?_; rintro e w3 ⟨rfl, n, rfl⟩))
  all_goals
    go_wp2_with fail
    go_ret
    refine ⟨rfl, ⟨gr, kr, .slice (some ⟨gg, 0, none⟩) s.gs.length kg, vc, ?_⟩, ((do_keep HB2.out).drewN _).setCell (Or.inl HTG.out) _⟩
    obtain ⟨gg', kg', hv, _, _, hset, _⟩ := (HS2.out.drewN _).gcell HG.out
    simp at hv
    obtain ⟨rfl, rfl⟩ := hv
    exact ((hset _).resolve_right (fun hn => hn HW.out)).wide (fun _ => Or.inl)
end Go.Proofs.YtipoklnoknkfhaaDoor
