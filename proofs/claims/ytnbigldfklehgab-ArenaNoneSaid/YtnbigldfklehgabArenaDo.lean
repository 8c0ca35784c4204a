/- The contract of an arena's Do: what an access answers, and leaves. -/
import Derived.Test.YtnbigldfklehgabArenaMore
namespace Go.Proofs.Ytnbigldfklehgab
open Go Go.RowKit
set_option linter.unusedSimpArgs false
set_option linter.unusedVariables false

/-- an access -/
structure Acc where
  kind : Int
  at_ : Int
  x : Int
  y : Int
  old : Int
  deriving DecidableEq
abbrev Acc.v (a : Acc) : Value := .agg #[.int .i64 a.kind, .int .i64 a.at_, .int .u64 a.x, .int .u64 a.y, .int .u64 a.old]
abbrev Acc.obj (a : Acc) : Obj := .cells #[.int .i64 a.kind, .int .i64 a.at_, .int .u64 a.x, .int .u64 a.y, .int .u64 a.old] 47
def Acc.zero : Acc := ⟨0, 0, 0, 0, 0⟩
abbrev Acc.zobj : Obj := .cells #[.int .i64 0, .int .i64 0, .int .u64 0, .int .u64 0, .int .u64 0] 47
/-- whole words -/
def Wf (xs : List Int) : Prop := ∀ j, j < xs.length → 0 ≤ wd xs j ∧ wd xs j < 18446744073709551616
theorem u64_back (x y : Int) (h0 : 0 ≤ x) (h1 : x < 18446744073709551616) : IntKind.u64.wrap (IntKind.u64.wrap (x + y) - y) = x := by
  simp only [IntKind.wrap_u64]
  omega
theorem Wf.back {xs : List Int} (h : Wf xs) (y : Int) (i : Int) (h0 : 0 ≤ i) (h1 : i < xs.length) : IntKind.u64.wrap (IntKind.u64.wrap (wd xs i.toNat + y) - y) = wd xs i.toNat := by
  have := h i.toNat (by omega)
  exact u64_back _ _ this.1 this.2
/-- is there a place, and is it an access? -/
def Acc.fits (a : Acc) (xs : List Int) : Bool := decide (0 ≤ a.at_ ∧ a.at_ < xs.length ∧ 1 ≤ a.kind ∧ a.kind ≤ 4)
def Acc.res (a : Acc) (xs : List Int) : Acc := if a.fits xs = true then { a with old := ld xs a.at_ } else Acc.zero
def Acc.left (a : Acc) (xs : List Int) : List Int :=
  if a.kind = 2 then st xs a.at_ a.x else if a.kind = 3 then swap xs a.at_ a.x a.y else if a.kind = 4 then st xs a.at_ (IntKind.u64.wrap (ld xs a.at_ + a.x)) else xs
theorem acc_cells {a : Acc} {w : World} {b : Nat} (h : w.heap[b]? = some a.obj) : w.cell? ⟨b, 0, none⟩ = some (.int .i64 a.kind) ∧ w.cell? ⟨b, 1, none⟩ = some (.int .i64 a.at_) ∧ w.cell? ⟨b, 2, none⟩ = some (.int .u64 a.x) ∧ w.cell? ⟨b, 3, none⟩ = some (.int .u64 a.y) ∧ w.cell? ⟨b, 4, none⟩ = some (.int .u64 a.old) ∧ w.frozen? ⟨b, 4, none⟩ = false :=
  ⟨cell_of_block h 0, cell_of_block h 1, cell_of_block h 2, cell_of_block h 3, cell_of_block h 4, frozen_of_block h 4⟩
theorem zacc_cells {w : World} {b : Nat} (h : w.heap[b]? = some Acc.zobj) : w.cell? ⟨b, 0, none⟩ = some (.int .i64 0) ∧ w.cell? ⟨b, 1, none⟩ = some (.int .i64 0) ∧ w.cell? ⟨b, 2, none⟩ = some (.int .u64 0) ∧ w.cell? ⟨b, 3, none⟩ = some (.int .u64 0) ∧ w.cell? ⟨b, 4, none⟩ = some (.int .u64 0) ∧
    w.frozen? ⟨b, 0, none⟩ = false ∧ w.frozen? ⟨b, 1, none⟩ = false ∧ w.frozen? ⟨b, 2, none⟩ = false ∧ w.frozen? ⟨b, 3, none⟩ = false ∧ w.frozen? ⟨b, 4, none⟩ = false :=
  ⟨cell_of_block h 0, cell_of_block h 1, cell_of_block h 2, cell_of_block h 3, cell_of_block h 4, frozen_of_block h 0, frozen_of_block h 1, frozen_of_block h 2, frozen_of_block h 3, frozen_of_block h 4⟩

theorem do_out (w : World) (b g : Nat) (xs : List Int) (a : Acc) (h : IsArena w b g xs) (hw : Wf xs) (ho : a.at_ < 0 ∨ xs.length ≤ a.at_) :
    Calls Try.prog 17 #[.pointer (some ⟨b,0,none⟩), a.v] w fun e w' => e = .returned (.tuple #[(a.res xs).v, .bool (a.fits xs)]) ∧ IsArena w' b g (a.left xs) ∧ Keep (· = g) w w' := by
  have hlt := h.lt
  have HA : Hid (IsArena ((w.alloc a.obj).alloc Acc.zobj) b g xs) := h.keep (((Keep.refl (fun _ => False) w).alloc a.obj).alloc Acc.zobj) id id
  have HK0 : Hid (Keep (· = g) w ((w.alloc a.obj).alloc Acc.zobj)) := ((Keep.refl (· = g) w).alloc a.obj).alloc Acc.zobj
  have HW := Lib.hid hw
  have H0 := Lib.hid h
  obtain ⟨k0, k1, k2, k3, k4, kf⟩ := acc_cells (heap_new1 w a.obj Acc.zobj)
  obtain ⟨z0, z1, z2, z3, z4, f0, f1, f2, f3, f4⟩ := zacc_cells (heap_new2 w a.obj Acc.zobj)
  clear h hw
  have HF : Hid (a.fits xs = false) := by unfold Acc.fits Hid; exact decide_eq_false (by omega)
  have HR : Hid (a.res xs = Acc.zero) := by unfold Acc.res Hid; rw [if_neg (by rw [HF.out]; simp)]
  have HL : Hid (a.left xs = xs) := by
    have hst : ∀ z, st xs a.at_ z = xs := fun z => by unfold st; rw [if_neg (by omega)]
    have hsw : swap xs a.at_ a.x a.y = xs := by
      unfold swap
      split
      · exact hst _
      · rfl
    unfold Acc.left Hid
    simp only [hst, hsw, ite_self]
  rw [HF.out, HR.out, HL.out]
  unfold Acc.zero
  have HO := Lib.hid ho
  clear ho
  go_enter Try.func17, Try.ntmps17
  go_wp2_with fail
  refine (at_out _ _ _ _ _ HA.out HO.out).mono ?_
  rintro e w1 ⟨rfl, rfl⟩
  go_wp2_with fail
  exact bodyPost_ret (v := .tuple #[.agg #[.int .i64 0, .int .i64 0, .int .u64 0, .int .u64 0, .int .u64 0], .bool false]) (by simp [results, Try.results17, go_sem, z0, z1, z2, z3, z4]) rfl
    ⟨rfl, H0.out.keep (S := fun _ => False) (by repeat (first | (with_reducible exact Keep.refl _ _) | (with_reducible refine Keep.alloc ?_ _) | refine Keep.setCell ?_ (Or.inr (by simp)) _)) id id, by repeat (first | (with_reducible exact Keep.refl _ _) | (with_reducible refine Keep.alloc ?_ _) | refine Keep.setCell ?_ (Or.inr (by simp)) _)⟩

theorem do_1 (w : World) (b g : Nat) (xs : List Int) (a : Acc) (h : IsArena w b g xs) (hw : Wf xs) (hi : 0 ≤ a.at_ ∧ a.at_ < xs.length) (hk : a.kind = 1) :
    Calls Try.prog 17 #[.pointer (some ⟨b,0,none⟩), a.v] w fun e w' => e = .returned (.tuple #[(a.res xs).v, .bool (a.fits xs)]) ∧ IsArena w' b g (a.left xs) ∧ Keep (· = g) w w' := by
  have hlt := h.lt
  have HA : Hid (IsArena ((w.alloc a.obj).alloc Acc.zobj) b g xs) := h.keep (((Keep.refl (fun _ => False) w).alloc a.obj).alloc Acc.zobj) id id
  have HK0 : Hid (Keep (· = g) w ((w.alloc a.obj).alloc Acc.zobj)) := ((Keep.refl (· = g) w).alloc a.obj).alloc Acc.zobj
  have HW := Lib.hid hw
  have H0 := Lib.hid h
  obtain ⟨k0, k1, k2, k3, k4, kf⟩ := acc_cells (heap_new1 w a.obj Acc.zobj)
  obtain ⟨z0, z1, z2, z3, z4, f0, f1, f2, f3, f4⟩ := zacc_cells (heap_new2 w a.obj Acc.zobj)
  clear h hw
  have HF : Hid (a.fits xs = true) := by unfold Acc.fits Hid; exact decide_eq_true (by omega)
  have HR : Hid (a.res xs = { a with old := ld xs a.at_ }) := by unfold Acc.res Hid; rw [if_pos HF.out]
  have HL : Hid (a.left xs = xs) := by unfold Acc.left Hid; rw [if_neg (by omega), if_neg (by omega), if_neg (by omega)]
  rw [HF.out, HR.out, HL.out]
  have t1 : (a.kind == 1) = true := by rw [beq_iff_eq]; omega
  have HI := Lib.hid hi
  clear hi hk
  go_enter Try.func17, Try.ntmps17
  go_wp2_with fail
  refine (at_in _ _ _ _ _ HA.out HI.out.1 HI.out.2).mono ?_
  rintro e w1 ⟨rfl, rfl⟩
  go_wp2_with fail
  refine (load_any _ _ _ _ _ HA.out).mono ?_
  rintro e w1 ⟨rfl, rfl⟩
  go_wp2_with fail
  exact bodyPost_ret (v := .tuple #[.agg #[.int .i64 a.kind, .int .i64 a.at_, .int .u64 a.x, .int .u64 a.y, .int .u64 (ld xs a.at_)], .bool true]) (by simp [results, Try.results17, go_sem, z0, z1, z2, z3, z4]) rfl
    ⟨rfl, H0.out.keep (S := fun _ => False) (by repeat (first | (with_reducible exact Keep.refl _ _) | (with_reducible refine Keep.alloc ?_ _) | refine Keep.setCell ?_ (Or.inr (by simp)) _)) id id, by repeat (first | (with_reducible exact Keep.refl _ _) | (with_reducible refine Keep.alloc ?_ _) | refine Keep.setCell ?_ (Or.inr (by simp)) _)⟩

theorem do_2 (w : World) (b g : Nat) (xs : List Int) (a : Acc) (h : IsArena w b g xs) (hw : Wf xs) (hi : 0 ≤ a.at_ ∧ a.at_ < xs.length) (hk : a.kind = 2) :
    Calls Try.prog 17 #[.pointer (some ⟨b,0,none⟩), a.v] w fun e w' => e = .returned (.tuple #[(a.res xs).v, .bool (a.fits xs)]) ∧ IsArena w' b g (a.left xs) ∧ Keep (· = g) w w' := by
  have hlt := h.lt
  have HA : Hid (IsArena ((w.alloc a.obj).alloc Acc.zobj) b g xs) := h.keep (((Keep.refl (fun _ => False) w).alloc a.obj).alloc Acc.zobj) id id
  have HK0 : Hid (Keep (· = g) w ((w.alloc a.obj).alloc Acc.zobj)) := ((Keep.refl (· = g) w).alloc a.obj).alloc Acc.zobj
  have HW := Lib.hid hw
  have H0 := Lib.hid h
  obtain ⟨k0, k1, k2, k3, k4, kf⟩ := acc_cells (heap_new1 w a.obj Acc.zobj)
  obtain ⟨z0, z1, z2, z3, z4, f0, f1, f2, f3, f4⟩ := zacc_cells (heap_new2 w a.obj Acc.zobj)
  clear h hw
  have HF : Hid (a.fits xs = true) := by unfold Acc.fits Hid; exact decide_eq_true (by omega)
  have HR : Hid (a.res xs = { a with old := ld xs a.at_ }) := by unfold Acc.res Hid; rw [if_pos HF.out]
  have HL : Hid (a.left xs = st xs a.at_ a.x) := by unfold Acc.left Hid; rw [if_pos hk]
  rw [HF.out, HR.out, HL.out]
  have t1 : (a.kind == 1) = false := by rw [beq_eq_false_iff_ne]; omega
  have t2 : (a.kind == 2) = true := by rw [beq_iff_eq]; omega
  have HI := Lib.hid hi
  clear hi hk
  go_enter Try.func17, Try.ntmps17
  go_wp2_with fail
  refine (at_in _ _ _ _ _ HA.out HI.out.1 HI.out.2).mono ?_
  rintro e w1 ⟨rfl, rfl⟩
  go_wp2_with fail
  refine (load_any _ _ _ _ _ HA.out).mono ?_
  rintro e w1 ⟨rfl, rfl⟩
  go_wp2_with fail
  refine (store_any _ _ _ _ _ _ HA.out).mono ?_
  rintro e w2 ⟨rfl, ha2, hk2⟩
  have HA2 := Lib.hid ha2
  have HK2 : Hid (Keep (· = g) w w2) := HK0.out.trans hk2
  have hs2 := hk2.size
  simp at hs2
  clear k0 k1 k2 k3 k4 kf z0 z1 z2 z3 z4 f0 f1 f2 f3 f4
  obtain ⟨k0, k1, k2, k3, k4, kf⟩ := acc_cells (hk2.at_ (heap_new1 w a.obj Acc.zobj) (by omega))
  obtain ⟨z0, z1, z2, z3, z4, f0, f1, f2, f3, f4⟩ := zacc_cells (hk2.at_ (heap_new2 w a.obj Acc.zobj) (by omega))
  clear ha2 hk2
  go_wp2_with fail
  exact bodyPost_ret (v := .tuple #[.agg #[.int .i64 a.kind, .int .i64 a.at_, .int .u64 a.x, .int .u64 a.y, .int .u64 (ld xs a.at_)], .bool true]) (by simp [results, Try.results17, go_sem, z0, z1, z2, z3, z4]) rfl
    ⟨rfl, HA2.out.keep (S := fun k => w.heap.size ≤ k) (by repeat (first | (with_reducible exact Keep.refl _ _) | refine Keep.setCell ?_ (Or.inl (by simp)) _)) (by omega) (by omega), by repeat (first | (with_reducible exact HK2.out) | refine Keep.setCell ?_ (Or.inr (by simp)) _)⟩

theorem do_3 (w : World) (b g : Nat) (xs : List Int) (a : Acc) (h : IsArena w b g xs) (hw : Wf xs) (hi : 0 ≤ a.at_ ∧ a.at_ < xs.length) (hk : a.kind = 3) :
    Calls Try.prog 17 #[.pointer (some ⟨b,0,none⟩), a.v] w fun e w' => e = .returned (.tuple #[(a.res xs).v, .bool (a.fits xs)]) ∧ IsArena w' b g (a.left xs) ∧ Keep (· = g) w w' := by
  have hlt := h.lt
  have HA : Hid (IsArena ((w.alloc a.obj).alloc Acc.zobj) b g xs) := h.keep (((Keep.refl (fun _ => False) w).alloc a.obj).alloc Acc.zobj) id id
  have HK0 : Hid (Keep (· = g) w ((w.alloc a.obj).alloc Acc.zobj)) := ((Keep.refl (· = g) w).alloc a.obj).alloc Acc.zobj
  have HW := Lib.hid hw
  have H0 := Lib.hid h
  obtain ⟨k0, k1, k2, k3, k4, kf⟩ := acc_cells (heap_new1 w a.obj Acc.zobj)
  obtain ⟨z0, z1, z2, z3, z4, f0, f1, f2, f3, f4⟩ := zacc_cells (heap_new2 w a.obj Acc.zobj)
  clear h hw
  have HF : Hid (a.fits xs = true) := by unfold Acc.fits Hid; exact decide_eq_true (by omega)
  have HR : Hid (a.res xs = { a with old := ld xs a.at_ }) := by unfold Acc.res Hid; rw [if_pos HF.out]
  have HL : Hid (a.left xs = swap xs a.at_ a.x a.y) := by unfold Acc.left Hid; rw [if_neg (by omega), if_pos hk]
  rw [HF.out, HR.out, HL.out]
  have t1 : (a.kind == 1) = false := by rw [beq_eq_false_iff_ne]; omega
  have t2 : (a.kind == 2) = false := by rw [beq_eq_false_iff_ne]; omega
  have t3 : (a.kind == 3) = true := by rw [beq_iff_eq]; omega
  have HI := Lib.hid hi
  clear hi hk
  go_enter Try.func17, Try.ntmps17
  go_wp2_with fail
  refine (at_in _ _ _ _ _ HA.out HI.out.1 HI.out.2).mono ?_
  rintro e w1 ⟨rfl, rfl⟩
  go_wp2_with fail
  refine (load_any _ _ _ _ _ HA.out).mono ?_
  rintro e w1 ⟨rfl, rfl⟩
  go_wp2_with fail
  refine (cas_any _ _ _ _ _ _ _ HA.out).mono ?_
  rintro e w2 ⟨rfl, ha2, hk2⟩
  have HA2 := Lib.hid ha2
  have HK2 : Hid (Keep (· = g) w w2) := HK0.out.trans hk2
  have hs2 := hk2.size
  simp at hs2
  clear k0 k1 k2 k3 k4 kf z0 z1 z2 z3 z4 f0 f1 f2 f3 f4
  obtain ⟨k0, k1, k2, k3, k4, kf⟩ := acc_cells (hk2.at_ (heap_new1 w a.obj Acc.zobj) (by omega))
  obtain ⟨z0, z1, z2, z3, z4, f0, f1, f2, f3, f4⟩ := zacc_cells (hk2.at_ (heap_new2 w a.obj Acc.zobj) (by omega))
  clear ha2 hk2
  go_wp2_with fail
  exact bodyPost_ret (v := .tuple #[.agg #[.int .i64 a.kind, .int .i64 a.at_, .int .u64 a.x, .int .u64 a.y, .int .u64 (ld xs a.at_)], .bool true]) (by simp [results, Try.results17, go_sem, z0, z1, z2, z3, z4]) rfl
    ⟨rfl, HA2.out.keep (S := fun k => w.heap.size ≤ k) (by repeat (first | (with_reducible exact Keep.refl _ _) | refine Keep.setCell ?_ (Or.inl (by simp)) _)) (by omega) (by omega), by repeat (first | (with_reducible exact HK2.out) | refine Keep.setCell ?_ (Or.inr (by simp)) _)⟩

theorem do_4 (w : World) (b g : Nat) (xs : List Int) (a : Acc) (h : IsArena w b g xs) (hw : Wf xs) (hi : 0 ≤ a.at_ ∧ a.at_ < xs.length) (hk : a.kind = 4) :
    Calls Try.prog 17 #[.pointer (some ⟨b,0,none⟩), a.v] w fun e w' => e = .returned (.tuple #[(a.res xs).v, .bool (a.fits xs)]) ∧ IsArena w' b g (a.left xs) ∧ Keep (· = g) w w' := by
  have hlt := h.lt
  have HA : Hid (IsArena ((w.alloc a.obj).alloc Acc.zobj) b g xs) := h.keep (((Keep.refl (fun _ => False) w).alloc a.obj).alloc Acc.zobj) id id
  have HK0 : Hid (Keep (· = g) w ((w.alloc a.obj).alloc Acc.zobj)) := ((Keep.refl (· = g) w).alloc a.obj).alloc Acc.zobj
  have HW := Lib.hid hw
  have H0 := Lib.hid h
  obtain ⟨k0, k1, k2, k3, k4, kf⟩ := acc_cells (heap_new1 w a.obj Acc.zobj)
  obtain ⟨z0, z1, z2, z3, z4, f0, f1, f2, f3, f4⟩ := zacc_cells (heap_new2 w a.obj Acc.zobj)
  clear h hw
  have HF : Hid (a.fits xs = true) := by unfold Acc.fits Hid; exact decide_eq_true (by omega)
  have HR : Hid (a.res xs = { a with old := ld xs a.at_ }) := by unfold Acc.res Hid; rw [if_pos HF.out]
  have HL : Hid (a.left xs = st xs a.at_ (IntKind.u64.wrap (ld xs a.at_ + a.x))) := by unfold Acc.left Hid; rw [if_neg (by omega), if_neg (by omega), if_pos hk]
  rw [HF.out, HR.out, HL.out]
  have t1 : (a.kind == 1) = false := by rw [beq_eq_false_iff_ne]; omega
  have t2 : (a.kind == 2) = false := by rw [beq_eq_false_iff_ne]; omega
  have t3 : (a.kind == 3) = false := by rw [beq_eq_false_iff_ne]; omega
  have t4 : (a.kind == 4) = true := by rw [beq_iff_eq]; omega
  have HI := Lib.hid hi
  clear hi hk
  go_enter Try.func17, Try.ntmps17
  go_wp2_with fail
  refine (at_in _ _ _ _ _ HA.out HI.out.1 HI.out.2).mono ?_
  rintro e w1 ⟨rfl, rfl⟩
  go_wp2_with fail
  refine (load_any _ _ _ _ _ HA.out).mono ?_
  rintro e w1 ⟨rfl, rfl⟩
  go_wp2_with fail
  refine (add_any _ _ _ _ _ _ HA.out (HW.out.back _ _)).mono ?_
  rintro e w2 ⟨rfl, ha2, hk2⟩
  have HA2 := Lib.hid ha2
  have HK2 : Hid (Keep (· = g) w w2) := HK0.out.trans hk2
  have hs2 := hk2.size
  simp at hs2
  clear k0 k1 k2 k3 k4 kf z0 z1 z2 z3 z4 f0 f1 f2 f3 f4
  obtain ⟨k0, k1, k2, k3, k4, kf⟩ := acc_cells (hk2.at_ (heap_new1 w a.obj Acc.zobj) (by omega))
  obtain ⟨z0, z1, z2, z3, z4, f0, f1, f2, f3, f4⟩ := zacc_cells (hk2.at_ (heap_new2 w a.obj Acc.zobj) (by omega))
  clear ha2 hk2
  go_wp2_with fail
  exact bodyPost_ret (v := .tuple #[.agg #[.int .i64 a.kind, .int .i64 a.at_, .int .u64 a.x, .int .u64 a.y, .int .u64 (ld xs a.at_)], .bool true]) (by simp [results, Try.results17, go_sem, z0, z1, z2, z3, z4]) rfl
    ⟨rfl, HA2.out.keep (S := fun k => w.heap.size ≤ k) (by repeat (first | (with_reducible exact Keep.refl _ _) | refine Keep.setCell ?_ (Or.inl (by simp)) _)) (by omega) (by omega), by repeat (first | (with_reducible exact HK2.out) | refine Keep.setCell ?_ (Or.inr (by simp)) _)⟩

theorem do_no (w : World) (b g : Nat) (xs : List Int) (a : Acc) (h : IsArena w b g xs) (hw : Wf xs) (hi : 0 ≤ a.at_ ∧ a.at_ < xs.length) (hk : a.kind < 1 ∨ 4 < a.kind) :
    Calls Try.prog 17 #[.pointer (some ⟨b,0,none⟩), a.v] w fun e w' => e = .returned (.tuple #[(a.res xs).v, .bool (a.fits xs)]) ∧ IsArena w' b g (a.left xs) ∧ Keep (· = g) w w' := by
  have hlt := h.lt
  have HA : Hid (IsArena ((w.alloc a.obj).alloc Acc.zobj) b g xs) := h.keep (((Keep.refl (fun _ => False) w).alloc a.obj).alloc Acc.zobj) id id
  have HK0 : Hid (Keep (· = g) w ((w.alloc a.obj).alloc Acc.zobj)) := ((Keep.refl (· = g) w).alloc a.obj).alloc Acc.zobj
  have HW := Lib.hid hw
  have H0 := Lib.hid h
  obtain ⟨k0, k1, k2, k3, k4, kf⟩ := acc_cells (heap_new1 w a.obj Acc.zobj)
  obtain ⟨z0, z1, z2, z3, z4, f0, f1, f2, f3, f4⟩ := zacc_cells (heap_new2 w a.obj Acc.zobj)
  clear h hw
  have HF : Hid (a.fits xs = false) := by unfold Acc.fits Hid; exact decide_eq_false (by omega)
  have HR : Hid (a.res xs = Acc.zero) := by unfold Acc.res Hid; rw [if_neg (by rw [HF.out]; simp)]
  have HL : Hid (a.left xs = xs) := by unfold Acc.left Hid; rw [if_neg (by omega), if_neg (by omega), if_neg (by omega)]
  rw [HF.out, HR.out, HL.out]
  unfold Acc.zero
  have t1 : (a.kind == 1) = false := by rw [beq_eq_false_iff_ne]; omega
  have t2 : (a.kind == 2) = false := by rw [beq_eq_false_iff_ne]; omega
  have t3 : (a.kind == 3) = false := by rw [beq_eq_false_iff_ne]; omega
  have t4 : (a.kind == 4) = false := by rw [beq_eq_false_iff_ne]; omega
  have HI := Lib.hid hi
  clear hi hk
  go_enter Try.func17, Try.ntmps17
  go_wp2_with fail
  refine (at_in _ _ _ _ _ HA.out HI.out.1 HI.out.2).mono ?_
  rintro e w1 ⟨rfl, rfl⟩
  go_wp2_with fail
  refine (load_any _ _ _ _ _ HA.out).mono ?_
  rintro e w1 ⟨rfl, rfl⟩
  go_wp2_with fail
  exact bodyPost_ret (v := .tuple #[.agg #[.int .i64 0, .int .i64 0, .int .u64 0, .int .u64 0, .int .u64 0], .bool false]) (by simp [results, Try.results17, go_sem, z0, z1, z2, z3, z4]) rfl
    ⟨rfl, H0.out.keep (S := fun _ => False) (by repeat (first | (with_reducible exact Keep.refl _ _) | (with_reducible refine Keep.alloc ?_ _) | refine Keep.setCell ?_ (Or.inr (by simp)) _)) id id, by repeat (first | (with_reducible exact Keep.refl _ _) | (with_reducible refine Keep.alloc ?_ _) | refine Keep.setCell ?_ (Or.inr (by simp)) _)⟩

theorem do_any (w : World) (b g : Nat) (xs : List Int) (a : Acc) (h : IsArena w b g xs) (hw : Wf xs) :
    Calls Try.prog 17 #[.pointer (some ⟨b,0,none⟩), a.v] w fun e w' => e = .returned (.tuple #[(a.res xs).v, .bool (a.fits xs)]) ∧ IsArena w' b g (a.left xs) ∧ Keep (· = g) w w' := by
  by_cases hi : 0 ≤ a.at_ ∧ a.at_ < xs.length
  · by_cases h1 : a.kind = 1
    · exact do_1 w b g xs a h hw hi h1
    by_cases h2 : a.kind = 2
    · exact do_2 w b g xs a h hw hi h2
    by_cases h3 : a.kind = 3
    · exact do_3 w b g xs a h hw hi h3
    by_cases h4 : a.kind = 4
    · exact do_4 w b g xs a h hw hi h4
    exact do_no w b g xs a h hw hi (by omega)
  · exact do_out w b g xs a h hw (by omega)
end Go.Proofs.Ytnbigldfklehgab
