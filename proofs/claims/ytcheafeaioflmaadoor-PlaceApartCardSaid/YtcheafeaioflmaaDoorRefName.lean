/- The reference's name of any place. -/
import Derived.Test.YtcheafeaioflmaaDoorSpotRow
import Derived.Test.YtcheafeaioflmaaDoorDigits
namespace Go.Proofs.YtcheafeaioflmaaDoor
open Go Go.RowKit
set_option linter.unusedSimpArgs false
set_option linter.unusedVariables false

theorem nat_sz (n : Int) (h0 : 0 ≤ n) (h1 : n < 18446744073709551616) : (nat n).size ≤ 20 := (dec_size n.toNat (by omega)).2
theorem rname_no (w : World) (c : Cfg) (k : Int) (ok : c.ok = false) : Calls Tryd.prog 71 #[c.v, .int .i64 k] w fun e w' => e = .returned (.string ⟨#[]⟩) ∧ Below w.heap.size w w' := by
  obtain ⟨k0, k1, k2, k3⟩ := Cfg.cells_at (heap_alloc_new w c.obj)
  have HB0 : Hid (Below w.heap.size w (w.alloc c.obj)) := (Below.refl _ _).alloc (Nat.le_refl _) _
  have HA := Lib.hid (all_no (w.alloc c.obj) c ok)
  clear ok
  by_cases h0 : k < 0
  all_goals
    go_enter Tryd.func71, Tryd.ntmps71
    go_wp2_with fail
    refine HA.out.mono ?_
    rintro e w1 ⟨rfl, hb⟩
    have HB : Hid (Below w.heap.size w w1) := HB0.out.trans (hb.mono HB0.out.size)
    clear k0 k1 k2 k3 hb
    have d1 : k < 0 ∨ decide ((0 : Int) ≤ k) = true := by by_cases hh : k < 0 <;> simp [hh] <;> omega
    have d0 : decide (k < 0) = decide (k < 0) := rfl
    clear d0
    rcases d1 with d1 | d1
    · first | (have d0 : decide (k < 0) = true := by simpa using d1) | (exfalso; omega)
      clear h0 d1
      go_wp2_with fail
      go_ret
      exact ⟨rfl, HB.out⟩
    · first | (have d0 : decide (k < 0) = false := by simp at d1; simp; omega) | (exfalso; simp at d1; omega)
      clear h0
      go_wp2_with fail
      go_ret
      exact ⟨rfl, HB.out⟩
theorem rname_out (w : World) (c : Cfg) (k : Int) (n m r g : Nat) (hn : c.cells = n) (hm : c.muts = m) (hr : c.regs = r) (hg : c.globs = g) (ok : c.ok = true) (h : ¬ (0 ≤ k ∧ k < (5 + m + g + m * r + 3 * n : Nat))) :
    Calls Tryd.prog 71 #[c.v, .int .i64 k] w fun e w' => e = .returned (.string ⟨#[]⟩) ∧ Below w.heap.size w w' := by
  obtain ⟨k0, k1, k2, k3⟩ := Cfg.cells_at (heap_alloc_new w c.obj)
  have HB0 : Hid (Below w.heap.size w (w.alloc c.obj)) := (Below.refl _ _).alloc (Nat.le_refl _) _
  have HA := Lib.hid (all_any (w.alloc c.obj) c n m r g hn hm hr hg ok)
  obtain ⟨T, hT⟩ : ∃ T : Nat, T = 5 + m + g + m * r + 3 * n := ⟨_, rfl⟩
  rw [← hT] at HA h
  have hT0 : 0 < T := by omega
  clear ok hn hm hr hg hT
  by_cases h0 : k < 0
  · have d0 : decide (k < 0) = true := by simpa using h0
    clear h h0
    go_enter Tryd.func71, Tryd.ntmps71
    go_wp2_with fail
    refine HA.out.mono ?_
    rintro e w1 ⟨v, rfl, hrow, hb⟩
    obtain ⟨gb, cap, rfl, hgl, hgB, hcap, hcell⟩ := row_spot hrow hT0
    have HB : Hid (Below w.heap.size w w1) := HB0.out.trans (hb.mono HB0.out.size)
    clear k0 k1 k2 k3 hb hrow hcell
    go_wp2_with fail
    go_ret
    exact ⟨rfl, HB.out⟩
  · have d0 : decide (k < 0) = false := by simpa using h0
    have d1 : decide ((T : Int) ≤ k) = true := by simp; omega
    clear h h0
    go_enter Tryd.func71, Tryd.ntmps71
    go_wp2_with fail
    refine HA.out.mono ?_
    rintro e w1 ⟨v, rfl, hrow, hb⟩
    obtain ⟨gb, cap, rfl, hgl, hgB, hcap, hcell⟩ := row_spot hrow hT0
    have HB : Hid (Below w.heap.size w w1) := HB0.out.trans (hb.mono HB0.out.size)
    clear k0 k1 k2 k3 hb hrow hcell
    go_wp2_with fail
    go_ret
    exact ⟨rfl, HB.out⟩
set_option maxHeartbeats 4000000 in
theorem rname_once (w : World) (c : Cfg) (n m r g T : Nat) (hn : c.cells = n) (hm : c.muts = m) (hr : c.regs = r) (hg : c.globs = g) (ok : c.ok = true) (hT : T = 5 + m + g + m * r + 3 * n) (j : Nat) (hj : j < T) (a b : Int) (ha : 0 ≤ a ∧ a < 5) (hs : c.spot (j : Int) = ⟨0, a, b⟩) :
    Calls Tryd.prog 71 #[c.v, .int .i64 (j : Int)] w fun e w' => e = .returned (.string (onceName a)) ∧ Below w.heap.size w w' := by
  obtain ⟨k0, k1, k2, k3⟩ := Cfg.cells_at (heap_alloc_new w c.obj)
  have HB0 : Hid (Below w.heap.size w (w.alloc c.obj)) := (Below.refl _ _).alloc (Nat.le_refl _) _
  have HA := Lib.hid (all_any (w.alloc c.obj) c n m r g hn hm hr hg ok)
  have HS := Lib.hid hs
  rw [← hT] at HA
  have hT0 : 0 < T := by omega
  have i1 : (j : Int) < (T : Int) := by omega
  have i0 : (0 : Int) ≤ (j : Int) := by omega
  have d0 : decide ((j : Int) < 0) = false := by simp
  have d1 : decide ((T : Int) ≤ (j : Int)) = false := by simp; omega
  clear ok hn hm hr hg hT hs
  obtain rfl | rfl | rfl | rfl | rfl : a = 0 ∨ a = 1 ∨ a = 2 ∨ a = 3 ∨ a = 4 := by omega
  all_goals
    clear ha
    go_enter Tryd.func71, Tryd.ntmps71
    go_wp2_with fail
    refine HA.out.mono ?_
    rintro e w1 ⟨v, rfl, hrow, hb⟩
    obtain ⟨gb, cap, rfl, hgl, hgB, hcap, hcell⟩ := row_spot hrow hT0
    have HB : Hid (Below w.heap.size w w1) := HB0.out.trans (hb.mono HB0.out.size)
    obtain ⟨c0, c1, c2⟩ := hcell j hj
    rw [HS.out] at c0 c1 c2
    have hz : w.heap.size < w1.heap.size := by have := hb.size; simp at this; omega
    clear k0 k1 k2 k3 hb hrow hcell
    go_wp2_with fail
    go_ret
    exact ⟨rfl, (HB.out.alloc (Nat.le_of_lt hz) _).alloc (by simp; omega) _⟩
theorem kind_cell (kd : Int) (h : 0 ≤ kd ∧ kd < 7) (W : World) : (W.alloc (.cells #[.string ⟨#[]⟩, .string ⟨#[105, 110]⟩, .string ⟨#[103, 108, 111, 98]⟩, .string ⟨#[114, 101, 103]⟩, .string ⟨#[99, 97, 114]⟩, .string ⟨#[99, 100, 114]⟩, .string ⟨#[99, 111, 108, 111, 117, 114]⟩] 9)).cell? ⟨W.heap.size, kd.toNat, none⟩ = some (.string (kindName kd)) := by
  rw [cell_of_block (heap_alloc_new W _)]
  obtain rfl | rfl | rfl | rfl | rfl | rfl | rfl : kd = 0 ∨ kd = 1 ∨ kd = 2 ∨ kd = 3 ∨ kd = 4 ∨ kd = 5 ∨ kd = 6 := by omega
  all_goals rfl
theorem kindName_size (kd : Int) : (kindName kd).size ≤ 6 := by
  unfold kindName
  show (kindNames.getD kd.toNat []).toArray.size ≤ 6
  rw [List.size_toArray]
  by_cases h : kd.toNat < 7
  · have : ∀ j, j < 7 → (kindNames.getD j []).length ≤ 6 := by decide
    exact this _ h
  · rw [List.getD_eq_getElem?_getD, List.getElem?_eq_none (by simp [kindNames]; omega)]
    simp
set_option maxHeartbeats 16000000 in
set_option maxRecDepth 100000 in
theorem rname_kind (w : World) (c : Cfg) (n m r g T : Nat) (hn : c.cells = n) (hm : c.muts = m) (hr : c.regs = r) (hg : c.globs = g) (ok : c.ok = true) (hT : T = 5 + m + g + m * r + 3 * n) (j : Nat) (hj : j < T) (kd a b : Int) (hk : 0 < kd ∧ kd < 7) (hk3 : ¬ kd = 3) (ha : 0 ≤ a ∧ a < 100000) (hs : c.spot (j : Int) = ⟨kd, a, b⟩) :
    Calls Tryd.prog 71 #[c.v, .int .i64 (j : Int)] w fun e w' => e = .returned (.string (kindName kd ++ spc ++ nat a)) ∧ Below w.heap.size w w' := by
  have d3 : (kd == 3) = false := by rw [beq_eq_false_iff_ne]; exact hk3
  clear hk3
  have hna := nat_sz a ha.1 (by omega)
  have hnk := kindName_size kd
  have HBT := Lib.hid (kind_cell kd (by omega))
  have HAB : Hid (0 ≤ a ∧ a < 9223372036854775808) := by unfold Hid; omega
  obtain ⟨ta, hta⟩ : ∃ ta, ta = nat a := ⟨_, rfl⟩
  rw [← hta] at hna ⊢
  have HTA := Lib.hid hta
  have dk0 : (kd == 0) = false := by rw [beq_eq_false_iff_ne]; omega
  obtain ⟨dk1, dk2⟩ := hk
  have dk3 : 0 ≤ kd := by omega
  have dkd : kd.toNat < 7 := by omega
  generalize kindName kd = nm at *
  clear hta ha
  obtain ⟨k0, k1, k2, k3⟩ := Cfg.cells_at (heap_alloc_new w c.obj)
  have HB0 : Hid (Below w.heap.size w (w.alloc c.obj)) := (Below.refl _ _).alloc (Nat.le_refl _) _
  have HA := Lib.hid (all_any (w.alloc c.obj) c n m r g hn hm hr hg ok)
  have HS := Lib.hid hs
  rw [← hT] at HA
  have hT0 : 0 < T := by omega
  have i1 : (j : Int) < (T : Int) := by omega
  have i0 : (0 : Int) ≤ (j : Int) := by omega
  have d0 : decide ((j : Int) < 0) = false := by simp
  have d1 : decide ((T : Int) ≤ (j : Int)) = false := by simp; omega
  clear ok hn hm hr hg hT hs
  go_enter Tryd.func71, Tryd.ntmps71
  go_wp2_with fail
  refine HA.out.mono ?_
  rintro e w1 ⟨v, rfl, hrow, hb⟩
  obtain ⟨gb, cap, rfl, hgl, hgB, hcap, hcell⟩ := row_spot hrow hT0
  have HB : Hid (Below w.heap.size w w1) := HB0.out.trans (hb.mono HB0.out.size)
  obtain ⟨c0, c1, c2⟩ := hcell j hj
  rw [HS.out] at c0 c1 c2
  have hz : w.heap.size < w1.heap.size := by have := hb.size; simp at this; omega
  clear k0 k1 k2 k3 hb hrow hcell
  have x0 : (w1.alloc (.cells #[.int .i64 kd, .int .i64 a, .int .i64 b] 95)).cell? ⟨w1.heap.size, 0, none⟩ = some (.int .i64 kd) := cell_of_block (heap_alloc_new w1 _) 0
  have x1 : (w1.alloc (.cells #[.int .i64 kd, .int .i64 a, .int .i64 b] 95)).cell? ⟨w1.heap.size, 1, none⟩ = some (.int .i64 a) := cell_of_block (heap_alloc_new w1 _) 1
  have x2 : (w1.alloc (.cells #[.int .i64 kd, .int .i64 a, .int .i64 b] 95)).cell? ⟨w1.heap.size, 2, none⟩ = some (.int .i64 b) := cell_of_block (heap_alloc_new w1 _) 2
  have HBW : Hid (Below w.heap.size w (w1.alloc (.cells #[.int .i64 kd, .int .i64 a, .int .i64 b] 95))) := HB.out.alloc (Nat.le_of_lt hz) _
  have hzz : w1.heap.size < (w1.alloc (.cells #[.int .i64 kd, .int .i64 a, .int .i64 b] 95)).heap.size := by simp
  go_wp2_with fail
  generalize w1.alloc (.cells #[.int .i64 kd, .int .i64 a, .int .i64 b] 95) = W2 at *
  have a0 : (W2.alloc (.cells #[.string ⟨#[]⟩, .string ⟨#[105, 110]⟩, .string ⟨#[103, 108, 111, 98]⟩, .string ⟨#[114, 101, 103]⟩, .string ⟨#[99, 97, 114]⟩, .string ⟨#[99, 100, 114]⟩, .string ⟨#[99, 111, 108, 111, 117, 114]⟩] 9)).cell? ⟨w1.heap.size, 0, none⟩ = some (.int .i64 kd) := (World.cell?_alloc_lt W2 _ _ hzz).trans x0
  have a1 : (W2.alloc (.cells #[.string ⟨#[]⟩, .string ⟨#[105, 110]⟩, .string ⟨#[103, 108, 111, 98]⟩, .string ⟨#[114, 101, 103]⟩, .string ⟨#[99, 97, 114]⟩, .string ⟨#[99, 100, 114]⟩, .string ⟨#[99, 111, 108, 111, 117, 114]⟩] 9)).cell? ⟨w1.heap.size, 1, none⟩ = some (.int .i64 a) := (World.cell?_alloc_lt W2 _ _ hzz).trans x1
  have a2 : (W2.alloc (.cells #[.string ⟨#[]⟩, .string ⟨#[105, 110]⟩, .string ⟨#[103, 108, 111, 98]⟩, .string ⟨#[114, 101, 103]⟩, .string ⟨#[99, 97, 114]⟩, .string ⟨#[99, 100, 114]⟩, .string ⟨#[99, 111, 108, 111, 117, 114]⟩] 9)).cell? ⟨w1.heap.size, 2, none⟩ = some (.int .i64 b) := (World.cell?_alloc_lt W2 _ _ hzz).trans x2
  have a3 := HBT.out W2
  go_region_with (go_at_call 79; refine (refDigits_any _ a HAB.out.1 HAB.out.2).mono ?_; rw [show dec a.toNat = ta from HTA.out.symm]; rintro e wq ⟨rfl, hb2⟩; first
    | (have hqz : w1.heap.size < wq.heap.size := Nat.lt_of_lt_of_le hzz hb2.size; have HBQ : Hid (Below w.heap.size w wq) := HBW.out.drew.trans (hb2.mono (Nat.le_of_lt (Nat.lt_trans hz hzz))); have y0 : wq.cell? ⟨w1.heap.size, 0, none⟩ = some (.int .i64 kd) := (hb2.cell (by simpa using hzz)).trans x0; have z0 : (wq.alloc (.cells #[.string ⟨#[]⟩, .string ⟨#[105, 110]⟩, .string ⟨#[103, 108, 111, 98]⟩, .string ⟨#[114, 101, 103]⟩, .string ⟨#[99, 97, 114]⟩, .string ⟨#[99, 100, 114]⟩, .string ⟨#[99, 111, 108, 111, 117, 114]⟩] 9)).cell? ⟨w1.heap.size, 0, none⟩ = some (.int .i64 kd) := (World.cell?_alloc_lt wq _ _ hqz).trans y0; have y1 : wq.cell? ⟨w1.heap.size, 1, none⟩ = some (.int .i64 a) := (hb2.cell (by simpa using hzz)).trans x1; have z1 : (wq.alloc (.cells #[.string ⟨#[]⟩, .string ⟨#[105, 110]⟩, .string ⟨#[103, 108, 111, 98]⟩, .string ⟨#[114, 101, 103]⟩, .string ⟨#[99, 97, 114]⟩, .string ⟨#[99, 100, 114]⟩, .string ⟨#[99, 111, 108, 111, 117, 114]⟩] 9)).cell? ⟨w1.heap.size, 1, none⟩ = some (.int .i64 a) := (World.cell?_alloc_lt wq _ _ hqz).trans y1; have y2 : wq.cell? ⟨w1.heap.size, 2, none⟩ = some (.int .i64 b) := (hb2.cell (by simpa using hzz)).trans x2; have z2 : (wq.alloc (.cells #[.string ⟨#[]⟩, .string ⟨#[105, 110]⟩, .string ⟨#[103, 108, 111, 98]⟩, .string ⟨#[114, 101, 103]⟩, .string ⟨#[99, 97, 114]⟩, .string ⟨#[99, 100, 114]⟩, .string ⟨#[99, 111, 108, 111, 117, 114]⟩] 9)).cell? ⟨w1.heap.size, 2, none⟩ = some (.int .i64 b) := (World.cell?_alloc_lt wq _ _ hqz).trans y2; have z3 := HBT.out wq)
    | (have HBQ : Hid (Below w.heap.size w wq) := ((HBW.out.alloc (Nat.le_of_lt (Nat.lt_trans hz hzz)) _).drew).trans (hb2.mono (by simp; omega)); have y0 : wq.cell? ⟨w1.heap.size, 0, none⟩ = some (.int .i64 kd) := (hb2.cell (by simp; omega)).trans a0; have y1 : wq.cell? ⟨w1.heap.size, 1, none⟩ = some (.int .i64 a) := (hb2.cell (by simp; omega)).trans a1; have y2 : wq.cell? ⟨w1.heap.size, 2, none⟩ = some (.int .i64 b) := (hb2.cell (by simp; omega)).trans a2; have y3 : wq.cell? ⟨W2.heap.size, kd.toNat, none⟩ = some (.string nm) := (hb2.cell (by simp)).trans a3))
  all_goals
    go_wp2_with fail
    go_ret
    exact ⟨rfl, by first | exact HBQ.out | exact HBQ.out.alloc HBQ.out.size _⟩
end Go.Proofs.YtcheafeaioflmaaDoor
