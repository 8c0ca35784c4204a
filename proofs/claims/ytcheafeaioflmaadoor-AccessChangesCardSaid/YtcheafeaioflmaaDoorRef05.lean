/- The contract of the reference's Do: an access done on a list of words. -/
import Derived.Test.YtcheafeaioflmaaDoorArenaDo
namespace Go.Proofs.YtcheafeaioflmaaDoor
open Go Go.RowKit
set_option linter.unusedSimpArgs false
set_option linter.unusedVariables false

theorem acc_left_not (a : Acc) (xs : List Int) (h : a.fits xs = false) : a.left xs = xs := by
  unfold Acc.fits at h
  have h' := of_decide_eq_false h
  unfold Acc.left
  by_cases h2 : a.kind = 2 ∨ a.kind = 3 ∨ a.kind = 4
  · have hst : ∀ z, st xs a.at_ z = xs := fun z => by unfold st; rw [if_neg (by omega)]
    have hsw : swap xs a.at_ a.x a.y = xs := by
      unfold swap
      split
      · exact hst _
      · rfl
    simp only [hst, hsw, ite_self]
  · rw [if_neg (by omega), if_neg (by omega), if_neg (by omega)]

theorem refdo_k1 (w : World) (base : Nat) (A : Option Addr) (c : Nat) (xs : List Int) (a : Acc) (h : Own .u64 31 w base (.slice A xs.length c) xs) (hm : xs.length ≤ 1000) (ho : a.kind < 1) :
    Calls Tryd.prog 21 #[.slice A xs.length c, a.v] w fun e w' => e = .returned (.tuple #[(a.res xs).v, .bool (a.fits xs)]) ∧ Own .u64 31 w' base (.slice A xs.length c) (a.left xs) ∧ Keep (fun k => (Value.slice A xs.length c).ownBlock = some k) w w' := by
  have H0 := Lib.hid h
  obtain ⟨_, _, _, _, hbk⟩ := h.form
  have HBK := Lib.hid hbk
  clear hbk
  obtain ⟨k0, k1, k2, k3, k4, kf⟩ := acc_cells (heap_new1 w a.obj Acc.zobj)
  obtain ⟨z0, z1, z2, z3, z4, f0, f1, f2, f3, f4⟩ := zacc_cells (heap_new2 w a.obj Acc.zobj)
  have HF : Hid (a.fits xs = false) := by unfold Acc.fits Hid; exact decide_eq_false (by omega)
  have HR : Hid (a.res xs = Acc.zero) := by unfold Acc.res Hid; rw [if_neg (by rw [HF.out]; simp)]
  have HL : Hid (a.left xs = xs) := acc_left_not a xs HF.out
  rw [HF.out, HR.out, HL.out]
  unfold Acc.zero
  have t1 : decide (a.kind < 1) = true := by simpa using ho
  clear h ho
  go_enter Tryd.func21, Tryd.ntmps21
  go_wp2_with fail
  exact bodyPost_ret (v := .tuple #[.agg #[.int .i64 0, .int .i64 0, .int .u64 0, .int .u64 0, .int .u64 0], .bool false]) (by simp [results, Tryd.results21, go_sem, z0, z1, z2, z3, z4]) rfl
    ⟨rfl, H0.out.keep (S := fun _ => False) (by repeat (first | (with_reducible exact Keep.refl _ _) | (with_reducible refine Keep.alloc ?_ _) | refine Keep.setCell ?_ (Or.inr (by simp)) _)) (fun _ _ h => h), by repeat (first | (with_reducible exact Keep.refl _ _) | (with_reducible refine Keep.alloc ?_ _) | refine Keep.setCell ?_ (Or.inr (by simp)) _)⟩

theorem refdo_k2 (w : World) (base : Nat) (A : Option Addr) (c : Nat) (xs : List Int) (a : Acc) (h : Own .u64 31 w base (.slice A xs.length c) xs) (hm : xs.length ≤ 1000) (ho : 4 < a.kind) :
    Calls Tryd.prog 21 #[.slice A xs.length c, a.v] w fun e w' => e = .returned (.tuple #[(a.res xs).v, .bool (a.fits xs)]) ∧ Own .u64 31 w' base (.slice A xs.length c) (a.left xs) ∧ Keep (fun k => (Value.slice A xs.length c).ownBlock = some k) w w' := by
  have H0 := Lib.hid h
  obtain ⟨_, _, _, _, hbk⟩ := h.form
  have HBK := Lib.hid hbk
  clear hbk
  obtain ⟨k0, k1, k2, k3, k4, kf⟩ := acc_cells (heap_new1 w a.obj Acc.zobj)
  obtain ⟨z0, z1, z2, z3, z4, f0, f1, f2, f3, f4⟩ := zacc_cells (heap_new2 w a.obj Acc.zobj)
  have HF : Hid (a.fits xs = false) := by unfold Acc.fits Hid; exact decide_eq_false (by omega)
  have HR : Hid (a.res xs = Acc.zero) := by unfold Acc.res Hid; rw [if_neg (by rw [HF.out]; simp)]
  have HL : Hid (a.left xs = xs) := acc_left_not a xs HF.out
  rw [HF.out, HR.out, HL.out]
  unfold Acc.zero
  have t1 : decide (a.kind < 1) = false := by simp; omega
  have t2 : decide (4 < a.kind) = true := by simpa using ho
  clear h ho
  go_enter Tryd.func21, Tryd.ntmps21
  go_wp2_with fail
  exact bodyPost_ret (v := .tuple #[.agg #[.int .i64 0, .int .i64 0, .int .u64 0, .int .u64 0, .int .u64 0], .bool false]) (by simp [results, Tryd.results21, go_sem, z0, z1, z2, z3, z4]) rfl
    ⟨rfl, H0.out.keep (S := fun _ => False) (by repeat (first | (with_reducible exact Keep.refl _ _) | (with_reducible refine Keep.alloc ?_ _) | refine Keep.setCell ?_ (Or.inr (by simp)) _)) (fun _ _ h => h), by repeat (first | (with_reducible exact Keep.refl _ _) | (with_reducible refine Keep.alloc ?_ _) | refine Keep.setCell ?_ (Or.inr (by simp)) _)⟩

theorem refdo_k3 (w : World) (base : Nat) (A : Option Addr) (c : Nat) (xs : List Int) (a : Acc) (h : Own .u64 31 w base (.slice A xs.length c) xs) (hm : xs.length ≤ 1000) (ho : 1 ≤ a.kind ∧ a.kind ≤ 4 ∧ a.at_ < 0) :
    Calls Tryd.prog 21 #[.slice A xs.length c, a.v] w fun e w' => e = .returned (.tuple #[(a.res xs).v, .bool (a.fits xs)]) ∧ Own .u64 31 w' base (.slice A xs.length c) (a.left xs) ∧ Keep (fun k => (Value.slice A xs.length c).ownBlock = some k) w w' := by
  have H0 := Lib.hid h
  obtain ⟨_, _, _, _, hbk⟩ := h.form
  have HBK := Lib.hid hbk
  clear hbk
  obtain ⟨k0, k1, k2, k3, k4, kf⟩ := acc_cells (heap_new1 w a.obj Acc.zobj)
  obtain ⟨z0, z1, z2, z3, z4, f0, f1, f2, f3, f4⟩ := zacc_cells (heap_new2 w a.obj Acc.zobj)
  have HF : Hid (a.fits xs = false) := by unfold Acc.fits Hid; exact decide_eq_false (by omega)
  have HR : Hid (a.res xs = Acc.zero) := by unfold Acc.res Hid; rw [if_neg (by rw [HF.out]; simp)]
  have HL : Hid (a.left xs = xs) := acc_left_not a xs HF.out
  rw [HF.out, HR.out, HL.out]
  unfold Acc.zero
  have t1 : decide (a.kind < 1) = false := by simp; omega
  have t2 : decide (4 < a.kind) = false := by simp; omega
  have t3 : decide (a.at_ < 0) = true := by simp; omega
  clear h ho
  go_enter Tryd.func21, Tryd.ntmps21
  go_wp2_with fail
  exact bodyPost_ret (v := .tuple #[.agg #[.int .i64 0, .int .i64 0, .int .u64 0, .int .u64 0, .int .u64 0], .bool false]) (by simp [results, Tryd.results21, go_sem, z0, z1, z2, z3, z4]) rfl
    ⟨rfl, H0.out.keep (S := fun _ => False) (by repeat (first | (with_reducible exact Keep.refl _ _) | (with_reducible refine Keep.alloc ?_ _) | refine Keep.setCell ?_ (Or.inr (by simp)) _)) (fun _ _ h => h), by repeat (first | (with_reducible exact Keep.refl _ _) | (with_reducible refine Keep.alloc ?_ _) | refine Keep.setCell ?_ (Or.inr (by simp)) _)⟩

theorem refdo_k4 (w : World) (base : Nat) (A : Option Addr) (c : Nat) (xs : List Int) (a : Acc) (h : Own .u64 31 w base (.slice A xs.length c) xs) (hm : xs.length ≤ 1000) (ho : 1 ≤ a.kind ∧ a.kind ≤ 4 ∧ 0 ≤ a.at_ ∧ xs.length ≤ a.at_) :
    Calls Tryd.prog 21 #[.slice A xs.length c, a.v] w fun e w' => e = .returned (.tuple #[(a.res xs).v, .bool (a.fits xs)]) ∧ Own .u64 31 w' base (.slice A xs.length c) (a.left xs) ∧ Keep (fun k => (Value.slice A xs.length c).ownBlock = some k) w w' := by
  have H0 := Lib.hid h
  obtain ⟨_, _, _, _, hbk⟩ := h.form
  have HBK := Lib.hid hbk
  clear hbk
  obtain ⟨k0, k1, k2, k3, k4, kf⟩ := acc_cells (heap_new1 w a.obj Acc.zobj)
  obtain ⟨z0, z1, z2, z3, z4, f0, f1, f2, f3, f4⟩ := zacc_cells (heap_new2 w a.obj Acc.zobj)
  have HF : Hid (a.fits xs = false) := by unfold Acc.fits Hid; exact decide_eq_false (by omega)
  have HR : Hid (a.res xs = Acc.zero) := by unfold Acc.res Hid; rw [if_neg (by rw [HF.out]; simp)]
  have HL : Hid (a.left xs = xs) := acc_left_not a xs HF.out
  rw [HF.out, HR.out, HL.out]
  unfold Acc.zero
  have t1 : decide (a.kind < 1) = false := by simp; omega
  have t2 : decide (4 < a.kind) = false := by simp; omega
  have t3 : decide (a.at_ < 0) = false := by simp; omega
  have t4 : decide ((xs.length : Int) ≤ a.at_) = true := by simp; omega
  clear h ho
  go_enter Tryd.func21, Tryd.ntmps21
  go_wp2_with fail
  exact bodyPost_ret (v := .tuple #[.agg #[.int .i64 0, .int .i64 0, .int .u64 0, .int .u64 0, .int .u64 0], .bool false]) (by simp [results, Tryd.results21, go_sem, z0, z1, z2, z3, z4]) rfl
    ⟨rfl, H0.out.keep (S := fun _ => False) (by repeat (first | (with_reducible exact Keep.refl _ _) | (with_reducible refine Keep.alloc ?_ _) | refine Keep.setCell ?_ (Or.inr (by simp)) _)) (fun _ _ h => h), by repeat (first | (with_reducible exact Keep.refl _ _) | (with_reducible refine Keep.alloc ?_ _) | refine Keep.setCell ?_ (Or.inr (by simp)) _)⟩

theorem refdo_y1 (w : World) (base : Nat) (A : Option Addr) (c : Nat) (xs : List Int) (a : Acc) (h : Own .u64 31 w base (.slice A xs.length c) xs) (hm : xs.length ≤ 1000) (hk : a.kind = 1) (hi : 0 ≤ a.at_ ∧ a.at_ < xs.length)  :
    Calls Tryd.prog 21 #[.slice A xs.length c, a.v] w fun e w' => e = .returned (.tuple #[(a.res xs).v, .bool (a.fits xs)]) ∧ Own .u64 31 w' base (.slice A xs.length c) (a.left xs) ∧ Keep (fun k => (Value.slice A xs.length c).ownBlock = some k) w w' := by
  have H0 := Lib.hid h
  obtain ⟨_, _, _, _, hbk⟩ := h.form
  have HBK := Lib.hid hbk
  clear hbk
  obtain ⟨k0, k1, k2, k3, k4, kf⟩ := acc_cells (heap_new1 w a.obj Acc.zobj)
  obtain ⟨z0, z1, z2, z3, z4, f0, f1, f2, f3, f4⟩ := zacc_cells (heap_new2 w a.obj Acc.zobj)
  have HF : Hid (a.fits xs = true) := by unfold Acc.fits Hid; exact decide_eq_true (by omega)
  have hld : ld xs a.at_ = wd xs a.at_.toNat := by unfold ld; rw [if_pos hi]
  have HR : Hid (a.res xs = { a with old := wd xs a.at_.toNat }) := by unfold Acc.res Hid; rw [if_pos HF.out, hld]
  have HL : Hid (a.left xs = xs) := by unfold Acc.left Hid; rw [if_neg (by omega), if_neg (by omega), if_neg (by omega)]
  rw [HF.out, HR.out, HL.out]
  obtain ⟨g, cap, cur, hv, hbg, hg, hn, hc, hs, ht⟩ := h.block (by omega)
  simp at hv
  obtain ⟨rfl, rfl⟩ := hv
  have hgl := block_lt hg
  obtain ⟨n, hn'⟩ := Int.eq_ofNat_of_zero_le hi.1
  have hnl : n < xs.length := by omega
  have hcell : w.cell? ⟨g, n, none⟩ = some (.int .u64 (wd xs n)) := by
    obtain ⟨A', c', hv', hi', _⟩ := h.form
    simp at hv'
    obtain ⟨rfl, rfl⟩ := hv'
    obtain ⟨ad, hE, _, hcx⟩ := hi'.at_ (by omega)
    obtain rfl : _ = ad := by injection hE
    have := hcx n hnl
    unfold Addr.add at this
    split at this
    · rename_i h0; subst h0; exact this
    · simpa using this
  have hfz : w.frozen? ⟨g, n, none⟩ = false := frozen_of_block hg n
  have htn : a.at_.toNat = n := by omega
  simp only [htn] at HR HL ⊢
  have c1 : ((w.alloc a.obj).alloc Acc.zobj).cell? ⟨g, n, none⟩ = some (.int .u64 (wd xs n)) := by rw [World.cell?_alloc_lt _ _ _ (by simp; omega), World.cell?_alloc_lt _ _ _ hgl]; exact hcell
  have t1 : decide (a.kind < 1) = false := by simp; omega
  have t2 : decide (4 < a.kind) = false := by simp; omega
  have t3 : decide (a.at_ < 0) = false := by simp; omega
  have t4 : decide ((xs.length : Int) ≤ a.at_) = false := by simp; omega
  have b1 : a.at_ < (xs.length : Int) := by omega
  have b0 : 0 ≤ a.at_ := by omega
  have s2 : (a.kind == 2) = false := by rw [beq_eq_false_iff_ne]; omega
  have s3 : (a.kind == 3) = false := by rw [beq_eq_false_iff_ne]; omega
  have s4 : (a.kind == 4) = false := by rw [beq_eq_false_iff_ne]; omega
  clear h hk hi hn' hld HBK ht hs hg hn hc
  go_enter Tryd.func21, Tryd.ntmps21
  go_wp2_with fail
  exact bodyPost_ret (v := .tuple #[.agg #[.int .i64 a.kind, .int .i64 a.at_, .int .u64 a.x, .int .u64 a.y, .int .u64 (wd xs n)], .bool true]) (by simp [results, Tryd.results21, go_sem, z0, z1, z2, z3, z4]) rfl
    ⟨rfl, H0.out.keep (S := fun _ => False) (by repeat (first | (with_reducible exact Keep.refl _ _) | (with_reducible refine Keep.alloc ?_ _) | refine Keep.setCell ?_ (Or.inr (by simp)) _)) (fun _ _ h => h), by repeat (first | (with_reducible exact Keep.refl _ _) | (with_reducible refine Keep.alloc ?_ _) | refine Keep.setCell ?_ (Or.inr (by simp)) _)⟩

theorem refdo_y2 (w : World) (base : Nat) (A : Option Addr) (c : Nat) (xs : List Int) (a : Acc) (h : Own .u64 31 w base (.slice A xs.length c) xs) (hm : xs.length ≤ 1000) (hk : a.kind = 2) (hi : 0 ≤ a.at_ ∧ a.at_ < xs.length)  :
    Calls Tryd.prog 21 #[.slice A xs.length c, a.v] w fun e w' => e = .returned (.tuple #[(a.res xs).v, .bool (a.fits xs)]) ∧ Own .u64 31 w' base (.slice A xs.length c) (a.left xs) ∧ Keep (fun k => (Value.slice A xs.length c).ownBlock = some k) w w' := by
  have H0 := Lib.hid h
  obtain ⟨_, _, _, _, hbk⟩ := h.form
  have HBK := Lib.hid hbk
  clear hbk
  obtain ⟨k0, k1, k2, k3, k4, kf⟩ := acc_cells (heap_new1 w a.obj Acc.zobj)
  obtain ⟨z0, z1, z2, z3, z4, f0, f1, f2, f3, f4⟩ := zacc_cells (heap_new2 w a.obj Acc.zobj)
  have HF : Hid (a.fits xs = true) := by unfold Acc.fits Hid; exact decide_eq_true (by omega)
  have hld : ld xs a.at_ = wd xs a.at_.toNat := by unfold ld; rw [if_pos hi]
  have HR : Hid (a.res xs = { a with old := wd xs a.at_.toNat }) := by unfold Acc.res Hid; rw [if_pos HF.out, hld]
  have HL : Hid (a.left xs = xs.set a.at_.toNat a.x) := by unfold Acc.left Hid; rw [if_pos hk]; unfold st; rw [if_pos hi]
  rw [HF.out, HR.out, HL.out]
  obtain ⟨g, cap, cur, hv, hbg, hg, hn, hc, hs, ht⟩ := h.block (by omega)
  simp at hv
  obtain ⟨rfl, rfl⟩ := hv
  have hgl := block_lt hg
  obtain ⟨n, hn'⟩ := Int.eq_ofNat_of_zero_le hi.1
  have hnl : n < xs.length := by omega
  have hcell : w.cell? ⟨g, n, none⟩ = some (.int .u64 (wd xs n)) := by
    obtain ⟨A', c', hv', hi', _⟩ := h.form
    simp at hv'
    obtain ⟨rfl, rfl⟩ := hv'
    obtain ⟨ad, hE, _, hcx⟩ := hi'.at_ (by omega)
    obtain rfl : _ = ad := by injection hE
    have := hcx n hnl
    unfold Addr.add at this
    split at this
    · rename_i h0; subst h0; exact this
    · simpa using this
  have hfz : w.frozen? ⟨g, n, none⟩ = false := frozen_of_block hg n
  have htn : a.at_.toNat = n := by omega
  simp only [htn] at HR HL ⊢
  have c1 : ((w.alloc a.obj).alloc Acc.zobj).cell? ⟨g, n, none⟩ = some (.int .u64 (wd xs n)) := by rw [World.cell?_alloc_lt _ _ _ (by simp; omega), World.cell?_alloc_lt _ _ _ hgl]; exact hcell
  have t1 : decide (a.kind < 1) = false := by simp; omega
  have t2 : decide (4 < a.kind) = false := by simp; omega
  have t3 : decide (a.at_ < 0) = false := by simp; omega
  have t4 : decide ((xs.length : Int) ≤ a.at_) = false := by simp; omega
  have b1 : a.at_ < (xs.length : Int) := by omega
  have b0 : 0 ≤ a.at_ := by omega
  have s2 : (a.kind == 2) = true := by rw [beq_iff_eq]; omega
  clear h hk hi hn' hld HBK ht hs hg hn hc
  go_enter Tryd.func21, Tryd.ntmps21
  go_wp2_with fail
  exact bodyPost_ret (v := .tuple #[.agg #[.int .i64 a.kind, .int .i64 a.at_, .int .u64 a.x, .int .u64 a.y, .int .u64 (wd xs n)], .bool true]) (by simp [results, Tryd.results21, go_sem, z0, z1, z2, z3, z4]) rfl
    ⟨rfl, Own.keep (S := fun _ => False) (H0.out.set_ n (a.x) hnl) (by repeat (first | (with_reducible exact Keep.refl _ _) | (with_reducible refine Keep.alloc ?_ _) | refine Keep.setCell ?_ (Or.inr (by simp)) _)) (fun _ _ h => h), by repeat (first | (with_reducible exact Keep.refl _ _) | (with_reducible refine Keep.alloc ?_ _) | refine Keep.setCell ?_ (by first | exact Or.inl rfl | (refine Or.inr ?_; simp; done)) _)⟩

theorem refdo_y3 (w : World) (base : Nat) (A : Option Addr) (c : Nat) (xs : List Int) (a : Acc) (h : Own .u64 31 w base (.slice A xs.length c) xs) (hm : xs.length ≤ 1000) (hk : a.kind = 3) (hi : 0 ≤ a.at_ ∧ a.at_ < xs.length) (hq : wd xs a.at_.toNat = a.x) :
    Calls Tryd.prog 21 #[.slice A xs.length c, a.v] w fun e w' => e = .returned (.tuple #[(a.res xs).v, .bool (a.fits xs)]) ∧ Own .u64 31 w' base (.slice A xs.length c) (a.left xs) ∧ Keep (fun k => (Value.slice A xs.length c).ownBlock = some k) w w' := by
  have H0 := Lib.hid h
  obtain ⟨_, _, _, _, hbk⟩ := h.form
  have HBK := Lib.hid hbk
  clear hbk
  obtain ⟨k0, k1, k2, k3, k4, kf⟩ := acc_cells (heap_new1 w a.obj Acc.zobj)
  obtain ⟨z0, z1, z2, z3, z4, f0, f1, f2, f3, f4⟩ := zacc_cells (heap_new2 w a.obj Acc.zobj)
  have HF : Hid (a.fits xs = true) := by unfold Acc.fits Hid; exact decide_eq_true (by omega)
  have hld : ld xs a.at_ = wd xs a.at_.toNat := by unfold ld; rw [if_pos hi]
  have HR : Hid (a.res xs = { a with old := wd xs a.at_.toNat }) := by unfold Acc.res Hid; rw [if_pos HF.out, hld]
  have HL : Hid (a.left xs = xs.set a.at_.toNat a.y) := by unfold Acc.left Hid; rw [if_neg (by omega), if_pos hk]; unfold swap hit st; simp [hi.1, hi.2, hq]
  rw [HF.out, HR.out, HL.out]
  obtain ⟨g, cap, cur, hv, hbg, hg, hn, hc, hs, ht⟩ := h.block (by omega)
  simp at hv
  obtain ⟨rfl, rfl⟩ := hv
  have hgl := block_lt hg
  obtain ⟨n, hn'⟩ := Int.eq_ofNat_of_zero_le hi.1
  have hnl : n < xs.length := by omega
  have hcell : w.cell? ⟨g, n, none⟩ = some (.int .u64 (wd xs n)) := by
    obtain ⟨A', c', hv', hi', _⟩ := h.form
    simp at hv'
    obtain ⟨rfl, rfl⟩ := hv'
    obtain ⟨ad, hE, _, hcx⟩ := hi'.at_ (by omega)
    obtain rfl : _ = ad := by injection hE
    have := hcx n hnl
    unfold Addr.add at this
    split at this
    · rename_i h0; subst h0; exact this
    · simpa using this
  have hfz : w.frozen? ⟨g, n, none⟩ = false := frozen_of_block hg n
  have htn : a.at_.toNat = n := by omega
  simp only [htn] at HR HL ⊢
  have c1 : ((w.alloc a.obj).alloc Acc.zobj).cell? ⟨g, n, none⟩ = some (.int .u64 (wd xs n)) := by rw [World.cell?_alloc_lt _ _ _ (by simp; omega), World.cell?_alloc_lt _ _ _ hgl]; exact hcell
  have t1 : decide (a.kind < 1) = false := by simp; omega
  have t2 : decide (4 < a.kind) = false := by simp; omega
  have t3 : decide (a.at_ < 0) = false := by simp; omega
  have t4 : decide ((xs.length : Int) ≤ a.at_) = false := by simp; omega
  have b1 : a.at_ < (xs.length : Int) := by omega
  have b0 : 0 ≤ a.at_ := by omega
  have s2 : (a.kind == 2) = false := by rw [beq_eq_false_iff_ne]; omega
  have s3 : (a.kind == 3) = true := by rw [beq_iff_eq]; omega
  have q1 : (wd xs n == a.x) = true := by rw [beq_iff_eq, ← htn]; exact hq
  clear hq
  clear h hk hi hn' hld HBK ht hs hg hn hc
  go_enter Tryd.func21, Tryd.ntmps21
  go_wp2_with fail
  exact bodyPost_ret (v := .tuple #[.agg #[.int .i64 a.kind, .int .i64 a.at_, .int .u64 a.x, .int .u64 a.y, .int .u64 (wd xs n)], .bool true]) (by simp [results, Tryd.results21, go_sem, z0, z1, z2, z3, z4]) rfl
    ⟨rfl, Own.keep (S := fun _ => False) (H0.out.set_ n (a.y) hnl) (by repeat (first | (with_reducible exact Keep.refl _ _) | (with_reducible refine Keep.alloc ?_ _) | refine Keep.setCell ?_ (Or.inr (by simp)) _)) (fun _ _ h => h), by repeat (first | (with_reducible exact Keep.refl _ _) | (with_reducible refine Keep.alloc ?_ _) | refine Keep.setCell ?_ (by first | exact Or.inl rfl | (refine Or.inr ?_; simp; done)) _)⟩

theorem refdo_y3n (w : World) (base : Nat) (A : Option Addr) (c : Nat) (xs : List Int) (a : Acc) (h : Own .u64 31 w base (.slice A xs.length c) xs) (hm : xs.length ≤ 1000) (hk : a.kind = 3) (hi : 0 ≤ a.at_ ∧ a.at_ < xs.length) (hq : ¬ wd xs a.at_.toNat = a.x) :
    Calls Tryd.prog 21 #[.slice A xs.length c, a.v] w fun e w' => e = .returned (.tuple #[(a.res xs).v, .bool (a.fits xs)]) ∧ Own .u64 31 w' base (.slice A xs.length c) (a.left xs) ∧ Keep (fun k => (Value.slice A xs.length c).ownBlock = some k) w w' := by
  have H0 := Lib.hid h
  obtain ⟨_, _, _, _, hbk⟩ := h.form
  have HBK := Lib.hid hbk
  clear hbk
  obtain ⟨k0, k1, k2, k3, k4, kf⟩ := acc_cells (heap_new1 w a.obj Acc.zobj)
  obtain ⟨z0, z1, z2, z3, z4, f0, f1, f2, f3, f4⟩ := zacc_cells (heap_new2 w a.obj Acc.zobj)
  have HF : Hid (a.fits xs = true) := by unfold Acc.fits Hid; exact decide_eq_true (by omega)
  have hld : ld xs a.at_ = wd xs a.at_.toNat := by unfold ld; rw [if_pos hi]
  have HR : Hid (a.res xs = { a with old := wd xs a.at_.toNat }) := by unfold Acc.res Hid; rw [if_pos HF.out, hld]
  have HL : Hid (a.left xs = xs) := by unfold Acc.left Hid; rw [if_neg (by omega), if_pos hk]; unfold swap hit st; simp [hi.1, hi.2, hq]
  rw [HF.out, HR.out, HL.out]
  obtain ⟨g, cap, cur, hv, hbg, hg, hn, hc, hs, ht⟩ := h.block (by omega)
  simp at hv
  obtain ⟨rfl, rfl⟩ := hv
  have hgl := block_lt hg
  obtain ⟨n, hn'⟩ := Int.eq_ofNat_of_zero_le hi.1
  have hnl : n < xs.length := by omega
  have hcell : w.cell? ⟨g, n, none⟩ = some (.int .u64 (wd xs n)) := by
    obtain ⟨A', c', hv', hi', _⟩ := h.form
    simp at hv'
    obtain ⟨rfl, rfl⟩ := hv'
    obtain ⟨ad, hE, _, hcx⟩ := hi'.at_ (by omega)
    obtain rfl : _ = ad := by injection hE
    have := hcx n hnl
    unfold Addr.add at this
    split at this
    · rename_i h0; subst h0; exact this
    · simpa using this
  have hfz : w.frozen? ⟨g, n, none⟩ = false := frozen_of_block hg n
  have htn : a.at_.toNat = n := by omega
  simp only [htn] at HR HL ⊢
  have c1 : ((w.alloc a.obj).alloc Acc.zobj).cell? ⟨g, n, none⟩ = some (.int .u64 (wd xs n)) := by rw [World.cell?_alloc_lt _ _ _ (by simp; omega), World.cell?_alloc_lt _ _ _ hgl]; exact hcell
  have t1 : decide (a.kind < 1) = false := by simp; omega
  have t2 : decide (4 < a.kind) = false := by simp; omega
  have t3 : decide (a.at_ < 0) = false := by simp; omega
  have t4 : decide ((xs.length : Int) ≤ a.at_) = false := by simp; omega
  have b1 : a.at_ < (xs.length : Int) := by omega
  have b0 : 0 ≤ a.at_ := by omega
  have s2 : (a.kind == 2) = false := by rw [beq_eq_false_iff_ne]; omega
  have s3 : (a.kind == 3) = true := by rw [beq_iff_eq]; omega
  have q1 : (wd xs n == a.x) = false := by rw [beq_eq_false_iff_ne, ← htn]; exact hq
  clear hq
  clear h hk hi hn' hld HBK ht hs hg hn hc
  go_enter Tryd.func21, Tryd.ntmps21
  go_wp2_with fail
  exact bodyPost_ret (v := .tuple #[.agg #[.int .i64 a.kind, .int .i64 a.at_, .int .u64 a.x, .int .u64 a.y, .int .u64 (wd xs n)], .bool true]) (by simp [results, Tryd.results21, go_sem, z0, z1, z2, z3, z4]) rfl
    ⟨rfl, H0.out.keep (S := fun _ => False) (by repeat (first | (with_reducible exact Keep.refl _ _) | (with_reducible refine Keep.alloc ?_ _) | refine Keep.setCell ?_ (Or.inr (by simp)) _)) (fun _ _ h => h), by repeat (first | (with_reducible exact Keep.refl _ _) | (with_reducible refine Keep.alloc ?_ _) | refine Keep.setCell ?_ (Or.inr (by simp)) _)⟩

theorem refdo_y4 (w : World) (base : Nat) (A : Option Addr) (c : Nat) (xs : List Int) (a : Acc) (h : Own .u64 31 w base (.slice A xs.length c) xs) (hm : xs.length ≤ 1000) (hk : a.kind = 4) (hi : 0 ≤ a.at_ ∧ a.at_ < xs.length)  :
    Calls Tryd.prog 21 #[.slice A xs.length c, a.v] w fun e w' => e = .returned (.tuple #[(a.res xs).v, .bool (a.fits xs)]) ∧ Own .u64 31 w' base (.slice A xs.length c) (a.left xs) ∧ Keep (fun k => (Value.slice A xs.length c).ownBlock = some k) w w' := by
  have H0 := Lib.hid h
  obtain ⟨_, _, _, _, hbk⟩ := h.form
  have HBK := Lib.hid hbk
  clear hbk
  obtain ⟨k0, k1, k2, k3, k4, kf⟩ := acc_cells (heap_new1 w a.obj Acc.zobj)
  obtain ⟨z0, z1, z2, z3, z4, f0, f1, f2, f3, f4⟩ := zacc_cells (heap_new2 w a.obj Acc.zobj)
  have HF : Hid (a.fits xs = true) := by unfold Acc.fits Hid; exact decide_eq_true (by omega)
  have hld : ld xs a.at_ = wd xs a.at_.toNat := by unfold ld; rw [if_pos hi]
  have HR : Hid (a.res xs = { a with old := wd xs a.at_.toNat }) := by unfold Acc.res Hid; rw [if_pos HF.out, hld]
  have HL : Hid (a.left xs = xs.set a.at_.toNat (IntKind.u64.wrap (wd xs a.at_.toNat + a.x))) := by unfold Acc.left Hid; rw [if_neg (by omega), if_neg (by omega), if_pos hk, hld]; unfold st; rw [if_pos hi]
  rw [HF.out, HR.out, HL.out]
  obtain ⟨g, cap, cur, hv, hbg, hg, hn, hc, hs, ht⟩ := h.block (by omega)
  simp at hv
  obtain ⟨rfl, rfl⟩ := hv
  have hgl := block_lt hg
  obtain ⟨n, hn'⟩ := Int.eq_ofNat_of_zero_le hi.1
  have hnl : n < xs.length := by omega
  have hcell : w.cell? ⟨g, n, none⟩ = some (.int .u64 (wd xs n)) := by
    obtain ⟨A', c', hv', hi', _⟩ := h.form
    simp at hv'
    obtain ⟨rfl, rfl⟩ := hv'
    obtain ⟨ad, hE, _, hcx⟩ := hi'.at_ (by omega)
    obtain rfl : _ = ad := by injection hE
    have := hcx n hnl
    unfold Addr.add at this
    split at this
    · rename_i h0; subst h0; exact this
    · simpa using this
  have hfz : w.frozen? ⟨g, n, none⟩ = false := frozen_of_block hg n
  have htn : a.at_.toNat = n := by omega
  simp only [htn] at HR HL ⊢
  have c1 : ((w.alloc a.obj).alloc Acc.zobj).cell? ⟨g, n, none⟩ = some (.int .u64 (wd xs n)) := by rw [World.cell?_alloc_lt _ _ _ (by simp; omega), World.cell?_alloc_lt _ _ _ hgl]; exact hcell
  have t1 : decide (a.kind < 1) = false := by simp; omega
  have t2 : decide (4 < a.kind) = false := by simp; omega
  have t3 : decide (a.at_ < 0) = false := by simp; omega
  have t4 : decide ((xs.length : Int) ≤ a.at_) = false := by simp; omega
  have b1 : a.at_ < (xs.length : Int) := by omega
  have b0 : 0 ≤ a.at_ := by omega
  have s2 : (a.kind == 2) = false := by rw [beq_eq_false_iff_ne]; omega
  have s3 : (a.kind == 3) = false := by rw [beq_eq_false_iff_ne]; omega
  have s4 : (a.kind == 4) = true := by rw [beq_iff_eq]; omega
  clear h hk hi hn' hld HBK ht hs hg hn hc
  go_enter Tryd.func21, Tryd.ntmps21
  go_wp2_with fail
  exact bodyPost_ret (v := .tuple #[.agg #[.int .i64 a.kind, .int .i64 a.at_, .int .u64 a.x, .int .u64 a.y, .int .u64 (wd xs n)], .bool true]) (by simp [results, Tryd.results21, go_sem, z0, z1, z2, z3, z4]) rfl
    ⟨rfl, Own.keep (S := fun _ => False) (H0.out.set_ n (IntKind.u64.wrap (wd xs n + a.x)) hnl) (by repeat (first | (with_reducible exact Keep.refl _ _) | (with_reducible refine Keep.alloc ?_ _) | refine Keep.setCell ?_ (Or.inr (by simp)) _)) (fun _ _ h => h), by repeat (first | (with_reducible exact Keep.refl _ _) | (with_reducible refine Keep.alloc ?_ _) | refine Keep.setCell ?_ (by first | exact Or.inl rfl | (refine Or.inr ?_; simp; done)) _)⟩

theorem refdo_any (w : World) (base : Nat) (A : Option Addr) (c : Nat) (xs : List Int) (a : Acc) (h : Own .u64 31 w base (.slice A xs.length c) xs) (hm : xs.length ≤ 1000) :
    Calls Tryd.prog 21 #[.slice A xs.length c, a.v] w fun e w' => e = .returned (.tuple #[(a.res xs).v, .bool (a.fits xs)]) ∧ Own .u64 31 w' base (.slice A xs.length c) (a.left xs) ∧ Keep (fun k => (Value.slice A xs.length c).ownBlock = some k) w w' := by
  by_cases h1 : a.kind < 1
  · exact refdo_k1 w base A c xs a h hm h1
  by_cases h2 : 4 < a.kind
  · exact refdo_k2 w base A c xs a h hm h2
  by_cases h3 : a.at_ < 0
  · exact refdo_k3 w base A c xs a h hm (by omega)
  by_cases h4 : xs.length ≤ a.at_
  · exact refdo_k4 w base A c xs a h hm (by omega)
  by_cases e1 : a.kind = 1
  · exact refdo_y1 w base A c xs a h hm e1 (by omega)
  by_cases e2 : a.kind = 2
  · exact refdo_y2 w base A c xs a h hm e2 (by omega)
  by_cases e3 : a.kind = 3
  · by_cases hq : wd xs a.at_.toNat = a.x
    · exact refdo_y3 w base A c xs a h hm e3 (by omega) hq
    · exact refdo_y3n w base A c xs a h hm e3 (by omega) hq
  exact refdo_y4 w base A c xs a h hm (by omega) (by omega)
end Go.Proofs.YtcheafeaioflmaaDoor
