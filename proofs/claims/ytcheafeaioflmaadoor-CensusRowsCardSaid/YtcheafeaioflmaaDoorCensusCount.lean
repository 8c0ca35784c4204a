/- The contract of census.count. -/
import Derived.Test.YtcheafeaioflmaaDoorCensus
namespace Go.Proofs.YtcheafeaioflmaaDoor
open Go Go.RowKit
set_option linter.unusedSimpArgs false
set_option linter.unusedVariables false

def bump (f : Nat → Int) (t : Nt) : Nat → Int := fun i => f i + (if hit t i = true then 1 else 0)
def CountPost (w : World) (b : Nat) (f : Nat → Int) (t : Nt) (e : Ending) (w' : World) : Prop := e = .returned (.tuple #[]) ∧ CAt w' b (bump f t) ∧ Keep (fun y => y = b) w w'
theorem count_5 (w : World) (b : Nat) (f : Nat → Int) (h : CAt w b f) (t : Nt) (hf : ∀ i, 0 ≤ f i ∧ f i < 1000000) (hw : t.what = 5) :
    Calls Tryd.prog 123 #[.pointer (some ⟨b, 0, none⟩), t.v] w (CountPost w b f t) := by
  have HC0 := Lib.hid (h.keep ((Keep.refl (fun _ => False) w).alloc t.obj) id)
  have HK0 : Hid (Keep (fun y => y = b) w (w.alloc t.obj)) := (Keep.refl _ _).alloc _
  have HZ := Lib.hid h.lt
  have n1 : (w.alloc t.obj).cell? ⟨w.heap.size, 1, none⟩ = some (.int .i64 t.what) := cell_of_block (heap_alloc_new w t.obj) 1
  have n2 : (w.alloc t.obj).cell? ⟨w.heap.size, 2, none⟩ = some (.int .i64 t.op.kind) := cell_of_block (heap_alloc_new w t.obj) 2
  have n6 : (w.alloc t.obj).cell? ⟨w.heap.size, 6, none⟩ = some (.int .i64 t.n) := cell_of_block (heap_alloc_new w t.obj) 6
  have t1 : (t.what == 1) = false := by rw [beq_eq_false_iff_ne]; omega
  have t3 : (t.what == 3) = false := by rw [beq_eq_false_iff_ne]; omega
  have t2 : (t.what == 2) = false := by rw [beq_eq_false_iff_ne]; omega
  have t5 : (t.what == 5) = true := by rw [beq_iff_eq]; omega
  have c0 := HC0.out.cell 21 (by omega)
  have g0 := HC0.out.frozen 21 (by omega)
  have s0 : IntKind.i64.wrap (f 21 + 1) = f 21 + 1 := IntWalk.i64_in _ (by have := hf 21; omega)
  have HB : Hid (∀ i, (if i = 21 then f 21 + 1 else f i) = bump f t i) := by
    intro i
    unfold bump
    rw [hit_5 hw]
    by_cases e : i = 21
    · subst e; simp
    · simp [e]
  clear h hw hf
  go_enter Tryd.func123, Tryd.ntmps123
  go_wp2_with fail
  go_end0
  exact ⟨rfl, (HC0.out.set 21 (by omega) _).congr (fun i _ => HB.out i), HK0.out.setCell (Or.inl rfl) _⟩
theorem count_4 (w : World) (b : Nat) (f : Nat → Int) (h : CAt w b f) (t : Nt) (hf : ∀ i, 0 ≤ f i ∧ f i < 1000000) (hw : t.what = 4) :
    Calls Tryd.prog 123 #[.pointer (some ⟨b, 0, none⟩), t.v] w (CountPost w b f t) := by
  have HC0 := Lib.hid (h.keep ((Keep.refl (fun _ => False) w).alloc t.obj) id)
  have HK0 : Hid (Keep (fun y => y = b) w (w.alloc t.obj)) := (Keep.refl _ _).alloc _
  have HZ := Lib.hid h.lt
  have n1 : (w.alloc t.obj).cell? ⟨w.heap.size, 1, none⟩ = some (.int .i64 t.what) := cell_of_block (heap_alloc_new w t.obj) 1
  have n2 : (w.alloc t.obj).cell? ⟨w.heap.size, 2, none⟩ = some (.int .i64 t.op.kind) := cell_of_block (heap_alloc_new w t.obj) 2
  have n6 : (w.alloc t.obj).cell? ⟨w.heap.size, 6, none⟩ = some (.int .i64 t.n) := cell_of_block (heap_alloc_new w t.obj) 6
  have t1 : (t.what == 1) = false := by rw [beq_eq_false_iff_ne]; omega
  have t3 : (t.what == 3) = false := by rw [beq_eq_false_iff_ne]; omega
  have t2 : (t.what == 2) = false := by rw [beq_eq_false_iff_ne]; omega
  have t5 : (t.what == 5) = false := by rw [beq_eq_false_iff_ne]; omega
  have t4 : (t.what == 4) = true := by rw [beq_iff_eq]; omega
  have c0 := HC0.out.cell 22 (by omega)
  have g0 := HC0.out.frozen 22 (by omega)
  have s0 : IntKind.i64.wrap (f 22 + 1) = f 22 + 1 := IntWalk.i64_in _ (by have := hf 22; omega)
  have HB : Hid (∀ i, (if i = 22 then f 22 + 1 else f i) = bump f t i) := by
    intro i
    unfold bump
    rw [hit_4 hw]
    by_cases e : i = 22
    · subst e; simp
    · simp [e]
  clear h hw hf
  go_enter Tryd.func123, Tryd.ntmps123
  go_wp2_with fail
  go_end0
  exact ⟨rfl, (HC0.out.set 22 (by omega) _).congr (fun i _ => HB.out i), HK0.out.setCell (Or.inl rfl) _⟩
theorem count_6 (w : World) (b : Nat) (f : Nat → Int) (h : CAt w b f) (t : Nt) (hf : ∀ i, 0 ≤ f i ∧ f i < 1000000) (hw : t.what = 6) :
    Calls Tryd.prog 123 #[.pointer (some ⟨b, 0, none⟩), t.v] w (CountPost w b f t) := by
  have HC0 := Lib.hid (h.keep ((Keep.refl (fun _ => False) w).alloc t.obj) id)
  have HK0 : Hid (Keep (fun y => y = b) w (w.alloc t.obj)) := (Keep.refl _ _).alloc _
  have HZ := Lib.hid h.lt
  have n1 : (w.alloc t.obj).cell? ⟨w.heap.size, 1, none⟩ = some (.int .i64 t.what) := cell_of_block (heap_alloc_new w t.obj) 1
  have n2 : (w.alloc t.obj).cell? ⟨w.heap.size, 2, none⟩ = some (.int .i64 t.op.kind) := cell_of_block (heap_alloc_new w t.obj) 2
  have n6 : (w.alloc t.obj).cell? ⟨w.heap.size, 6, none⟩ = some (.int .i64 t.n) := cell_of_block (heap_alloc_new w t.obj) 6
  have t1 : (t.what == 1) = false := by rw [beq_eq_false_iff_ne]; omega
  have t3 : (t.what == 3) = false := by rw [beq_eq_false_iff_ne]; omega
  have t2 : (t.what == 2) = false := by rw [beq_eq_false_iff_ne]; omega
  have t5 : (t.what == 5) = false := by rw [beq_eq_false_iff_ne]; omega
  have t4 : (t.what == 4) = false := by rw [beq_eq_false_iff_ne]; omega
  have t6 : (t.what == 6) = true := by rw [beq_iff_eq]; omega
  have c0 := HC0.out.cell 23 (by omega)
  have g0 := HC0.out.frozen 23 (by omega)
  have s0 : IntKind.i64.wrap (f 23 + 1) = f 23 + 1 := IntWalk.i64_in _ (by have := hf 23; omega)
  have HB : Hid (∀ i, (if i = 23 then f 23 + 1 else f i) = bump f t i) := by
    intro i
    unfold bump
    rw [hit_6 hw]
    by_cases e : i = 23
    · subst e; simp
    · simp [e]
  clear h hw hf
  go_enter Tryd.func123, Tryd.ntmps123
  go_wp2_with fail
  go_end0
  exact ⟨rfl, (HC0.out.set 23 (by omega) _).congr (fun i _ => HB.out i), HK0.out.setCell (Or.inl rfl) _⟩
theorem count_2 (w : World) (b : Nat) (f : Nat → Int) (h : CAt w b f) (t : Nt) (hf : ∀ i, 0 ≤ f i ∧ f i < 1000000) (hw : t.what = 2) (hk : t.op.kind = 3 ∧ t.n ≠ 5) :
    Calls Tryd.prog 123 #[.pointer (some ⟨b, 0, none⟩), t.v] w (CountPost w b f t) := by
  have HC0 := Lib.hid (h.keep ((Keep.refl (fun _ => False) w).alloc t.obj) id)
  have HK0 : Hid (Keep (fun y => y = b) w (w.alloc t.obj)) := (Keep.refl _ _).alloc _
  have HZ := Lib.hid h.lt
  have n1 : (w.alloc t.obj).cell? ⟨w.heap.size, 1, none⟩ = some (.int .i64 t.what) := cell_of_block (heap_alloc_new w t.obj) 1
  have n2 : (w.alloc t.obj).cell? ⟨w.heap.size, 2, none⟩ = some (.int .i64 t.op.kind) := cell_of_block (heap_alloc_new w t.obj) 2
  have n6 : (w.alloc t.obj).cell? ⟨w.heap.size, 6, none⟩ = some (.int .i64 t.n) := cell_of_block (heap_alloc_new w t.obj) 6
  have t1 : (t.what == 1) = false := by rw [beq_eq_false_iff_ne]; omega
  have t3 : (t.what == 3) = false := by rw [beq_eq_false_iff_ne]; omega
  have t2 : (t.what == 2) = true := by rw [beq_iff_eq]; omega
  have c0 := HC0.out.cell 19 (by omega)
  have g0 := HC0.out.frozen 19 (by omega)
  have s0 : IntKind.i64.wrap (f 19 + 1) = f 19 + 1 := IntWalk.i64_in _ (by have := hf 19; omega)
  have HC1 := Lib.hid (HC0.out.set 19 (by omega) (f 19 + 1))
  have c1 := HC0.out.cell 20 (by omega)
  have g1 := HC0.out.frozen 20 (by omega)
  have s1 : IntKind.i64.wrap (f 20 + 1) = f 20 + 1 := IntWalk.i64_in _ (by have := hf 20; omega)
  have u3 : (t.op.kind == 3) = true := by rw [beq_iff_eq]; exact hk.1
  have u5 : (t.n == 5) = false := by rw [beq_eq_false_iff_ne]; exact hk.2
  have HB : Hid (∀ i, (if i = 20 then f 20 + 1 else if i = 19 then f 19 + 1 else f i) = bump f t i) := by
    intro i
    unfold bump
    rw [hit_2 hw]
    by_cases e : i = 20
    · subst e; simp [hk.1, hk.2]
    · by_cases e2 : i = 19
      · subst e2; simp
      · simp [e, e2]
  have HNB : Hid (b ≠ w.heap.size) := by have := HZ.out; unfold Hid; omega
  clear h hw hf hk
  go_enter Tryd.func123, Tryd.ntmps123
  go_wp2_with fail
  go_end0
  exact ⟨rfl, (HC1.out.set 20 (by omega) _).congr (fun i _ => HB.out i), (HK0.out.setCell (Or.inl rfl) _).setCell (Or.inl rfl) _⟩
theorem count_2n (w : World) (b : Nat) (f : Nat → Int) (h : CAt w b f) (t : Nt) (hf : ∀ i, 0 ≤ f i ∧ f i < 1000000) (hw : t.what = 2) (hk : ¬ (t.op.kind = 3 ∧ t.n ≠ 5)) :
    Calls Tryd.prog 123 #[.pointer (some ⟨b, 0, none⟩), t.v] w (CountPost w b f t) := by
  have HC0 := Lib.hid (h.keep ((Keep.refl (fun _ => False) w).alloc t.obj) id)
  have HK0 : Hid (Keep (fun y => y = b) w (w.alloc t.obj)) := (Keep.refl _ _).alloc _
  have HZ := Lib.hid h.lt
  have n1 : (w.alloc t.obj).cell? ⟨w.heap.size, 1, none⟩ = some (.int .i64 t.what) := cell_of_block (heap_alloc_new w t.obj) 1
  have n2 : (w.alloc t.obj).cell? ⟨w.heap.size, 2, none⟩ = some (.int .i64 t.op.kind) := cell_of_block (heap_alloc_new w t.obj) 2
  have n6 : (w.alloc t.obj).cell? ⟨w.heap.size, 6, none⟩ = some (.int .i64 t.n) := cell_of_block (heap_alloc_new w t.obj) 6
  have t1 : (t.what == 1) = false := by rw [beq_eq_false_iff_ne]; omega
  have t3 : (t.what == 3) = false := by rw [beq_eq_false_iff_ne]; omega
  have t2 : (t.what == 2) = true := by rw [beq_iff_eq]; omega
  have c0 := HC0.out.cell 19 (by omega)
  have g0 := HC0.out.frozen 19 (by omega)
  have s0 : IntKind.i64.wrap (f 19 + 1) = f 19 + 1 := IntWalk.i64_in _ (by have := hf 19; omega)
  have HB : Hid (∀ i, (if i = 19 then f 19 + 1 else f i) = bump f t i) := by
    intro i
    unfold bump
    rw [hit_2 hw]
    by_cases e2 : i = 19
    · subst e2; simp
    · by_cases e : i = 20
      · subst e; simp [show ¬ (t.op.kind = 3 ∧ ¬ t.n = 5) from hk]
      · simp [e, e2]
  have HNB : Hid (b ≠ w.heap.size) := by have := HZ.out; unfold Hid; omega
  by_cases hk3 : t.op.kind = 3
  · have u3 : (t.op.kind == 3) = true := by rw [beq_iff_eq]; exact hk3
    have u5 : (t.n == 5) = true := by rw [beq_iff_eq]; exact Decidable.byContradiction (fun e => hk ⟨hk3, e⟩)
    clear h hw hf hk hk3
    go_enter Tryd.func123, Tryd.ntmps123
    go_wp2_with fail
    go_end0
    exact ⟨rfl, (HC0.out.set 19 (by omega) _).congr (fun i _ => HB.out i), HK0.out.setCell (Or.inl rfl) _⟩
  · have u3 : (t.op.kind == 3) = false := by rw [beq_eq_false_iff_ne]; exact hk3
    clear h hw hf hk hk3
    go_enter Tryd.func123, Tryd.ntmps123
    go_wp2_with fail
    go_end0
    exact ⟨rfl, (HC0.out.set 19 (by omega) _).congr (fun i _ => HB.out i), HK0.out.setCell (Or.inl rfl) _⟩
set_option maxHeartbeats 4000000 in
set_option maxRecDepth 100000 in
theorem count_1 (w : World) (b : Nat) (f : Nat → Int) (h : CAt w b f) (t : Nt) (hf : ∀ i, 0 ≤ f i ∧ f i < 1000000) (hw : t.what = 1) :
    Calls Tryd.prog 123 #[.pointer (some ⟨b, 0, none⟩), t.v] w (CountPost w b f t) := by
  have HC0 := Lib.hid (h.keep ((Keep.refl (fun _ => False) w).alloc t.obj) id)
  have HK0 : Hid (Keep (fun y => y = b) w (w.alloc t.obj)) := (Keep.refl _ _).alloc _
  have HZ := Lib.hid h.lt
  have n1 : (w.alloc t.obj).cell? ⟨w.heap.size, 1, none⟩ = some (.int .i64 t.what) := cell_of_block (heap_alloc_new w t.obj) 1
  have n2 : (w.alloc t.obj).cell? ⟨w.heap.size, 2, none⟩ = some (.int .i64 t.op.kind) := cell_of_block (heap_alloc_new w t.obj) 2
  have n6 : (w.alloc t.obj).cell? ⟨w.heap.size, 6, none⟩ = some (.int .i64 t.n) := cell_of_block (heap_alloc_new w t.obj) 6
  have t1 : (t.what == 1) = true := by rw [beq_iff_eq]; omega
  obtain ⟨k, hk, hk2⟩ : ∃ k : Nat, wthin t.op.kind 12 = k ∧ k < 12 := ⟨(wthin t.op.kind 12).toNat, by have := wthin_lt t.op.kind 12 (by omega); omega, by have := wthin_lt t.op.kind 12 (by omega); omega⟩
  have HWT := Lib.hid hk
  have c0 := HC0.out.cell k (by omega)
  have g0 := HC0.out.frozen k (by omega)
  have s0 : IntKind.i64.wrap (f k + 1) = f k + 1 := IntWalk.i64_in _ (by have := hf k; omega)
  have i1 : (0 : Int) ≤ (k : Int) := by omega
  have i2 : (k : Int) < 12 := by omega
  have HB : Hid (∀ i, (if i = k then f k + 1 else f i) = bump f t i) := by
    intro i
    unfold bump
    rw [hit_1 hw, hk]
    by_cases e : i = k
    · subst e; simp
    · have e2 : ¬ ((i : Int) = k) := by omega
      simp [e, e2]
  have HKK := Lib.hid hk2
  clear h hw hf hk hk2
  go_enter Tryd.func123, Tryd.ntmps123
  go_wp2_with fail
  go_region_with (go_at_call 140; refine (cwithin_any _ _ _).mono ?_; rintro e w3 ⟨rfl, hw3⟩; obtain rfl := hw3.symm; clear hw3; rw [HWT.out])
  all_goals
    go_wp2_with fail
    go_end0
    exact ⟨rfl, (HC0.out.drew.set k (by have := HKK.out; omega) _).congr (fun i _ => HB.out i), HK0.out.drew.setCell (Or.inl rfl) _⟩
set_option maxHeartbeats 4000000 in
set_option maxRecDepth 100000 in
theorem count_3 (w : World) (b : Nat) (f : Nat → Int) (h : CAt w b f) (t : Nt) (hf : ∀ i, 0 ≤ f i ∧ f i < 1000000) (hw : t.what = 3) :
    Calls Tryd.prog 123 #[.pointer (some ⟨b, 0, none⟩), t.v] w (CountPost w b f t) := by
  have HC0 := Lib.hid (h.keep ((Keep.refl (fun _ => False) w).alloc t.obj) id)
  have HK0 : Hid (Keep (fun y => y = b) w (w.alloc t.obj)) := (Keep.refl _ _).alloc _
  have HZ := Lib.hid h.lt
  have n1 : (w.alloc t.obj).cell? ⟨w.heap.size, 1, none⟩ = some (.int .i64 t.what) := cell_of_block (heap_alloc_new w t.obj) 1
  have n2 : (w.alloc t.obj).cell? ⟨w.heap.size, 2, none⟩ = some (.int .i64 t.op.kind) := cell_of_block (heap_alloc_new w t.obj) 2
  have n6 : (w.alloc t.obj).cell? ⟨w.heap.size, 6, none⟩ = some (.int .i64 t.n) := cell_of_block (heap_alloc_new w t.obj) 6
  have t1 : (t.what == 1) = false := by rw [beq_eq_false_iff_ne]; omega
  have t3 : (t.what == 3) = true := by rw [beq_iff_eq]; omega
  obtain ⟨k, hk, hk2⟩ : ∃ k : Nat, wthin t.n 7 = k ∧ k < 7 := ⟨(wthin t.n 7).toNat, by have := wthin_lt t.n 7 (by omega); omega, by have := wthin_lt t.n 7 (by omega); omega⟩
  have HWT := Lib.hid hk
  have c0 := HC0.out.cell (12 + k) (by omega)
  have g0 := HC0.out.frozen (12 + k) (by omega)
  have s0 : IntKind.i64.wrap (f (12 + k) + 1) = f (12 + k) + 1 := IntWalk.i64_in _ (by have := hf (12 + k); omega)
  have i1 : (0 : Int) ≤ (k : Int) := by omega
  have i2 : (k : Int) < 7 := by omega
  have HB : Hid (∀ i, (if i = 12 + k then f (12 + k) + 1 else f i) = bump f t i) := by
    intro i
    unfold bump
    rw [hit_3 hw, hk]
    by_cases e : i = 12 + k
    · subst e; simp
    · have e2 : ¬ ((i : Int) = 12 + (k : Int)) := by omega
      simp [e, e2]
  have HKK := Lib.hid hk2
  clear h hw hf hk hk2
  go_enter Tryd.func123, Tryd.ntmps123
  go_wp2_with fail
  go_region_with (go_at_call 140; refine (cwithin_any _ _ _).mono ?_; rintro e w3 ⟨rfl, hw3⟩; obtain rfl := hw3.symm; clear hw3; rw [HWT.out])
  all_goals
    go_wp2_with fail
    go_end0
    exact ⟨rfl, (HC0.out.drew.set (12 + k) (by have := HKK.out; omega) _).congr (fun i _ => HB.out i), HK0.out.drew.setCell (Or.inl rfl) _⟩
theorem count_else (w : World) (b : Nat) (f : Nat → Int) (h : CAt w b f) (t : Nt) (hf : ∀ i, 0 ≤ f i ∧ f i < 1000000) (hw : ¬ (1 ≤ t.what ∧ t.what ≤ 6)) :
    Calls Tryd.prog 123 #[.pointer (some ⟨b, 0, none⟩), t.v] w (CountPost w b f t) := by
  have HC0 := Lib.hid (h.keep ((Keep.refl (fun _ => False) w).alloc t.obj) id)
  have HK0 : Hid (Keep (fun y => y = b) w (w.alloc t.obj)) := (Keep.refl _ _).alloc _
  have HZ := Lib.hid h.lt
  have n1 : (w.alloc t.obj).cell? ⟨w.heap.size, 1, none⟩ = some (.int .i64 t.what) := cell_of_block (heap_alloc_new w t.obj) 1
  have n2 : (w.alloc t.obj).cell? ⟨w.heap.size, 2, none⟩ = some (.int .i64 t.op.kind) := cell_of_block (heap_alloc_new w t.obj) 2
  have n6 : (w.alloc t.obj).cell? ⟨w.heap.size, 6, none⟩ = some (.int .i64 t.n) := cell_of_block (heap_alloc_new w t.obj) 6
  have t1 : (t.what == 1) = false := by rw [beq_eq_false_iff_ne]; omega
  have t3 : (t.what == 3) = false := by rw [beq_eq_false_iff_ne]; omega
  have t2 : (t.what == 2) = false := by rw [beq_eq_false_iff_ne]; omega
  have t5 : (t.what == 5) = false := by rw [beq_eq_false_iff_ne]; omega
  have t4 : (t.what == 4) = false := by rw [beq_eq_false_iff_ne]; omega
  have t6 : (t.what == 6) = false := by rw [beq_eq_false_iff_ne]; omega
  have HB : Hid (∀ i, f i = bump f t i) := by
    intro i
    unfold bump
    rw [hit_0 hw]
    simp
  clear h hw hf
  go_enter Tryd.func123, Tryd.ntmps123
  go_wp2_with fail
  go_end0
  exact ⟨rfl, HC0.out.congr (fun i _ => HB.out i), HK0.out⟩
theorem count_any (w : World) (b : Nat) (f : Nat → Int) (h : CAt w b f) (t : Nt) (hf : ∀ i, 0 ≤ f i ∧ f i < 1000000) :
    Calls Tryd.prog 123 #[.pointer (some ⟨b, 0, none⟩), t.v] w (CountPost w b f t) := by
  by_cases hw : 1 ≤ t.what ∧ t.what ≤ 6
  case neg => exact count_else w b f h t hf hw
  obtain e | e | e | e | e | e : t.what = 1 ∨ t.what = 2 ∨ t.what = 3 ∨ t.what = 4 ∨ t.what = 5 ∨ t.what = 6 := by omega
  · exact count_1 w b f h t hf e
  · by_cases hk : t.op.kind = 3 ∧ t.n ≠ 5
    · exact count_2 w b f h t hf e hk
    · exact count_2n w b f h t hf e hk
  · exact count_3 w b f h t hf e
  · exact count_4 w b f h t hf e
  · exact count_5 w b f h t hf e
  · exact count_6 w b f h t hf e
end Go.Proofs.YtcheafeaioflmaaDoor
