/- The name of any place: place.Name. -/
import Derived.Test.YtcheafeaioflmaaDoorSpot
import Derived.Test.YtcheafeaioflmaaDoorOpText
import Derived.Test.YtcheafeaioflmaaDoorPlaceLaw
import Derived.Test.YtcheafeaioflmaaDoorDigits
namespace Go.Proofs.YtcheafeaioflmaaDoor
open Go Go.RowKit
set_option linter.unusedSimpArgs false
set_option linter.unusedVariables false

theorem otx_nat (n : Int) (h : 0 ≤ n) : otx n = nat n := by
  obtain ⟨k, rfl⟩ : ∃ k : Nat, n = k := ⟨n.toNat, by omega⟩
  unfold otx nat dec
  rw [Lib.itoa_nonneg]
  rfl
theorem nat_size (n : Int) (h0 : 0 ≤ n) (h1 : n < 18446744073709551616) : (nat n).size ≤ 20 := (dec_size n.toNat (by omega)).2
/-- Itoa of a number from 0 on -/
theorem itoa_nat (w : World) (n : Int) (h : 0 ≤ n ∧ n ≤ 9223372036854775807) (ht : Tens w) :
    Calls Tryd.prog 82 #[.int .i64 n] w fun e w' => e = .returned (.string (nat n)) ∧ Below w.heap.size w w' := by
  rw [← otx_nat n h.1]
  exact itoa_any w n (by omega) ht
set_option maxHeartbeats 1000000 in
theorem pname_out (w : World) (c : Cfg) (k : Int) (h : ¬ (0 ≤ k ∧ k < c.words)) :
    Calls Tryd.prog 57 #[c.v, .int .i64 k] w fun e w' => e = .returned (.string ⟨#[]⟩) ∧ Below w.heap.size w w' := by
  have HM0 : Hid ((w.alloc c.mobj).heap[w.heap.size]? = some c.mobj) := heap_alloc_new w c.mobj
  obtain ⟨k0, k1, k2, k3⟩ := Cfg.mcells_at HM0.out
  have HB0 : Hid (Below w.heap.size w (w.alloc c.mobj)) := (Below.refl _ _).alloc (Nat.le_refl _) _
  by_cases h0 : k < 0
  · have d0 : decide (k < 0) = true := by simpa using h0
    clear h h0
    go_enter Tryd.func57, Tryd.ntmps57
    go_wp2_with fail
    go_ret
    exact ⟨rfl, HB0.out⟩
  · have d0 : decide (k < 0) = false := by simpa using h0
    have d1 : decide (c.words ≤ k) = true := by simp; omega
    clear h h0
    go_enter Tryd.func57, Tryd.ntmps57
    go_wp2_with fail
    refine (size_any _ c).mono ?_
    rintro e w1 ⟨rfl, hb⟩
    have HB1 : Hid (Below w.heap.size w w1) := HB0.out.trans (hb.mono HB0.out.size)
    clear k0 k1 k2 k3 hb
    go_wp2_with fail
    go_ret
    exact ⟨rfl, HB1.out⟩
set_option maxHeartbeats 2000000 in
theorem pname_once (w : World) (c : Cfg) (k S C R G : Int) (ht : Tens w) (hS : c.words = S) (hC : c.c0 = C) (hR : c.r0 = R) (hG : c.g0 = G) (hk : 0 ≤ k ∧ k < 5) (h1 : k < G) (h2 : k < R) (h3 : k < C) (h4 : k < S) :
    Calls Tryd.prog 57 #[c.v, .int .i64 k] w fun e w' => e = .returned (.string (onceName k)) ∧ Below w.heap.size w w' := by
  obtain rfl | rfl | rfl | rfl | rfl : k = 0 ∨ k = 1 ∨ k = 2 ∨ k = 3 ∨ k = 4 := by omega
  all_goals
    clear hk
    have HM0 : Hid ((w.alloc c.mobj).heap[w.heap.size]? = some c.mobj) := heap_alloc_new w c.mobj
    obtain ⟨k0, k1, k2, k3⟩ := Cfg.mcells_at HM0.out
    have HS : Hid (c.words = S) := hS
    have HC : Hid (c.c0 = C) := hC
    have HR : Hid (c.r0 = R) := hR
    have HG : Hid (c.g0 = G) := hG
    have HT : Hid (Tens w) := ht
    have HB0 : Hid (Below w.heap.size w (w.alloc c.mobj)) := (Below.refl _ _).alloc (Nat.le_refl _) _
    clear hS hC hR hG ht
    go_enter Tryd.func57, Tryd.ntmps57
    go_wp2_with fail
    refine (size_any _ c).mono ?_
    rintro e w1 ⟨rfl, hb⟩
    rw [HS.out]
    have HB1 : Hid (Below w.heap.size w w1) := HB0.out.trans (hb.mono HB0.out.size)
    have HM1 : Hid (w1.heap[w.heap.size]? = some c.mobj) := (hb.block _ (block_lt HM0.out)).trans HM0.out
    clear k0 k1 k2 k3 hb
    obtain ⟨k0, k1, k2, k3⟩ := Cfg.mcells_at HM1.out
    go_wp2_with fail
    refine (cells_any _ c).mono ?_
    rintro e w2 ⟨rfl, hb⟩
    rw [HC.out]
    have HB2 : Hid (Below w.heap.size w w2) := HB1.out.trans (hb.mono HB1.out.size)
    have HM2 : Hid (w2.heap[w.heap.size]? = some c.mobj) := (hb.block _ (block_lt HM1.out)).trans HM1.out
    clear k0 k1 k2 k3 hb
    obtain ⟨k0, k1, k2, k3⟩ := Cfg.mcells_at HM2.out
    go_wp2_with fail
    refine (regs_any _ c).mono ?_
    rintro e w3 ⟨rfl, hb⟩
    rw [HR.out]
    have HB3 : Hid (Below w.heap.size w w3) := HB2.out.trans (hb.mono HB2.out.size)
    have HM3 : Hid (w3.heap[w.heap.size]? = some c.mobj) := (hb.block _ (block_lt HM2.out)).trans HM2.out
    clear k0 k1 k2 k3 hb
    obtain ⟨k0, k1, k2, k3⟩ := Cfg.mcells_at HM3.out
    go_wp2_with fail
    refine (globs_any _ c).mono ?_
    rintro e w4 ⟨rfl, hb⟩
    rw [HG.out]
    have HB4 : Hid (Below w.heap.size w w4) := HB3.out.trans (hb.mono HB3.out.size)
    have HM4 : Hid (w4.heap[w.heap.size]? = some c.mobj) := (hb.block _ (block_lt HM3.out)).trans HM3.out
    clear k0 k1 k2 k3 hb
    obtain ⟨k0, k1, k2, k3⟩ := Cfg.mcells_at HM4.out
    go_wp2_with fail
    go_ret
    exact ⟨rfl, by repeat (first | exact HB4.out | refine Below.alloc ?_ HB4.out.size _)⟩
set_option maxHeartbeats 2000000 in
theorem pname_in (w : World) (c : Cfg) (k S C R G : Int) (ht : Tens w) (hS : c.words = S) (hC : c.c0 = C) (hR : c.r0 = R) (hG : c.g0 = G) (hk : 5 ≤ k) (h1 : k < G) (h2 : k < R) (h3 : k < C) (h4 : k < S) (hz : k ≤ 100000) :
    Calls Tryd.prog 57 #[c.v, .int .i64 k] w fun e w' => e = .returned (.string (⟨#[105, 110, 32]⟩ ++ nat (k - 5))) ∧ Below w.heap.size w w' := by
  have e1 : k - 4 - 1 = k - 5 := by omega
  have hn := nat_size (k - 5) (by omega) (by omega)
  have HE := Lib.hid e1
  clear e1
  obtain ⟨tn, htn⟩ : ∃ tn, tn = nat (k - 5) := ⟨_, rfl⟩
  rw [← htn] at hn ⊢
  have HN := Lib.hid htn
  clear htn
  have HM0 : Hid ((w.alloc c.mobj).heap[w.heap.size]? = some c.mobj) := heap_alloc_new w c.mobj
  obtain ⟨k0, k1, k2, k3⟩ := Cfg.mcells_at HM0.out
  have HS : Hid (c.words = S) := hS
  have HC : Hid (c.c0 = C) := hC
  have HR : Hid (c.r0 = R) := hR
  have HG : Hid (c.g0 = G) := hG
  have HT : Hid (Tens w) := ht
  have HB0 : Hid (Below w.heap.size w (w.alloc c.mobj)) := (Below.refl _ _).alloc (Nat.le_refl _) _
  clear hS hC hR hG ht
  go_enter Tryd.func57, Tryd.ntmps57
  go_wp2_with fail
  refine (size_any _ c).mono ?_
  rintro e w1 ⟨rfl, hb⟩
  rw [HS.out]
  have HB1 : Hid (Below w.heap.size w w1) := HB0.out.trans (hb.mono HB0.out.size)
  have HM1 : Hid (w1.heap[w.heap.size]? = some c.mobj) := (hb.block _ (block_lt HM0.out)).trans HM0.out
  clear k0 k1 k2 k3 hb
  obtain ⟨k0, k1, k2, k3⟩ := Cfg.mcells_at HM1.out
  go_wp2_with fail
  refine (cells_any _ c).mono ?_
  rintro e w2 ⟨rfl, hb⟩
  rw [HC.out]
  have HB2 : Hid (Below w.heap.size w w2) := HB1.out.trans (hb.mono HB1.out.size)
  have HM2 : Hid (w2.heap[w.heap.size]? = some c.mobj) := (hb.block _ (block_lt HM1.out)).trans HM1.out
  clear k0 k1 k2 k3 hb
  obtain ⟨k0, k1, k2, k3⟩ := Cfg.mcells_at HM2.out
  go_wp2_with fail
  refine (regs_any _ c).mono ?_
  rintro e w3 ⟨rfl, hb⟩
  rw [HR.out]
  have HB3 : Hid (Below w.heap.size w w3) := HB2.out.trans (hb.mono HB2.out.size)
  have HM3 : Hid (w3.heap[w.heap.size]? = some c.mobj) := (hb.block _ (block_lt HM2.out)).trans HM2.out
  clear k0 k1 k2 k3 hb
  obtain ⟨k0, k1, k2, k3⟩ := Cfg.mcells_at HM3.out
  go_wp2_with fail
  refine (globs_any _ c).mono ?_
  rintro e w4 ⟨rfl, hb⟩
  rw [HG.out]
  have HB4 : Hid (Below w.heap.size w w4) := HB3.out.trans (hb.mono HB3.out.size)
  have HM4 : Hid (w4.heap[w.heap.size]? = some c.mobj) := (hb.block _ (block_lt HM3.out)).trans HM3.out
  clear k0 k1 k2 k3 hb
  obtain ⟨k0, k1, k2, k3⟩ := Cfg.mcells_at HM4.out
  go_wp2_with fail
  refine (itoa_nat _ _ (by omega) (HT.out.below (Nat.le_refl _) HB4.out)).mono ?_
  rintro e w5 ⟨rfl, hb⟩
  have HB5 : Hid (Below w.heap.size w w5) := HB4.out.trans (hb.mono HB4.out.size)
  clear k0 k1 k2 k3 hb
  rw [HE.out, ← HN.out]
  go_wp2_with fail
  go_ret
  exact ⟨rfl, HB5.out⟩
set_option maxHeartbeats 2000000 in
theorem pname_glob (w : World) (c : Cfg) (k S C R G : Int) (ht : Tens w) (hS : c.words = S) (hC : c.c0 = C) (hR : c.r0 = R) (hG : c.g0 = G) (h1 : G ≤ k) (h2 : k < R) (h3 : k < C) (h4 : k < S) (hg : 0 ≤ G) (hz : k ≤ 100000) :
    Calls Tryd.prog 57 #[c.v, .int .i64 k] w fun e w' => e = .returned (.string (⟨#[103, 108, 111, 98, 32]⟩ ++ nat (k - G))) ∧ Below w.heap.size w w' := by
  have hn := nat_size (k - G) (by omega) (by omega)
  obtain ⟨tn, htn⟩ : ∃ tn, tn = nat (k - G) := ⟨_, rfl⟩
  rw [← htn] at hn ⊢
  have HN := Lib.hid htn
  have hk : 0 ≤ k := by omega
  clear htn
  have HM0 : Hid ((w.alloc c.mobj).heap[w.heap.size]? = some c.mobj) := heap_alloc_new w c.mobj
  obtain ⟨k0, k1, k2, k3⟩ := Cfg.mcells_at HM0.out
  have HS : Hid (c.words = S) := hS
  have HC : Hid (c.c0 = C) := hC
  have HR : Hid (c.r0 = R) := hR
  have HG : Hid (c.g0 = G) := hG
  have HT : Hid (Tens w) := ht
  have HB0 : Hid (Below w.heap.size w (w.alloc c.mobj)) := (Below.refl _ _).alloc (Nat.le_refl _) _
  clear hS hC hR hG ht
  go_enter Tryd.func57, Tryd.ntmps57
  go_wp2_with fail
  refine (size_any _ c).mono ?_
  rintro e w1 ⟨rfl, hb⟩
  rw [HS.out]
  have HB1 : Hid (Below w.heap.size w w1) := HB0.out.trans (hb.mono HB0.out.size)
  have HM1 : Hid (w1.heap[w.heap.size]? = some c.mobj) := (hb.block _ (block_lt HM0.out)).trans HM0.out
  clear k0 k1 k2 k3 hb
  obtain ⟨k0, k1, k2, k3⟩ := Cfg.mcells_at HM1.out
  go_wp2_with fail
  refine (cells_any _ c).mono ?_
  rintro e w2 ⟨rfl, hb⟩
  rw [HC.out]
  have HB2 : Hid (Below w.heap.size w w2) := HB1.out.trans (hb.mono HB1.out.size)
  have HM2 : Hid (w2.heap[w.heap.size]? = some c.mobj) := (hb.block _ (block_lt HM1.out)).trans HM1.out
  clear k0 k1 k2 k3 hb
  obtain ⟨k0, k1, k2, k3⟩ := Cfg.mcells_at HM2.out
  go_wp2_with fail
  refine (regs_any _ c).mono ?_
  rintro e w3 ⟨rfl, hb⟩
  rw [HR.out]
  have HB3 : Hid (Below w.heap.size w w3) := HB2.out.trans (hb.mono HB2.out.size)
  have HM3 : Hid (w3.heap[w.heap.size]? = some c.mobj) := (hb.block _ (block_lt HM2.out)).trans HM2.out
  clear k0 k1 k2 k3 hb
  obtain ⟨k0, k1, k2, k3⟩ := Cfg.mcells_at HM3.out
  go_wp2_with fail
  refine (globs_any _ c).mono ?_
  rintro e w4 ⟨rfl, hb⟩
  rw [HG.out]
  have HB4 : Hid (Below w.heap.size w w4) := HB3.out.trans (hb.mono HB3.out.size)
  have HM4 : Hid (w4.heap[w.heap.size]? = some c.mobj) := (hb.block _ (block_lt HM3.out)).trans HM3.out
  clear k0 k1 k2 k3 hb
  obtain ⟨k0, k1, k2, k3⟩ := Cfg.mcells_at HM4.out
  go_wp2_with fail
  refine (globs_any _ c).mono ?_
  rintro e w5 ⟨rfl, hb⟩
  rw [HG.out]
  have HB5 : Hid (Below w.heap.size w w5) := HB4.out.trans (hb.mono HB4.out.size)
  have HM5 : Hid (w5.heap[w.heap.size]? = some c.mobj) := (hb.block _ (block_lt HM4.out)).trans HM4.out
  clear k0 k1 k2 k3 hb
  obtain ⟨k0, k1, k2, k3⟩ := Cfg.mcells_at HM5.out
  go_wp2_with fail
  refine (itoa_nat _ _ (by omega) (HT.out.below (Nat.le_refl _) HB5.out)).mono ?_
  rintro e w6 ⟨rfl, hb⟩
  have HB6 : Hid (Below w.heap.size w w6) := HB5.out.trans (hb.mono HB5.out.size)
  clear k0 k1 k2 k3 hb
  rw [← HN.out]
  go_wp2_with fail
  go_ret
  exact ⟨rfl, HB6.out⟩
set_option maxHeartbeats 4000000 in
set_option maxRecDepth 100000 in
theorem pname_reg (w : World) (c : Cfg) (k S C R G : Int) (ht : Tens w) (hS : c.words = S) (hC : c.c0 = C) (hR : c.r0 = R) (hG : c.g0 = G) (h2 : R ≤ k) (h3 : k < C) (h4 : k < S) (hg : 0 ≤ R) (hz : k ≤ 100000) (hr : 1 ≤ c.regs ∧ c.regs ≤ 64) :
    Calls Tryd.prog 57 #[c.v, .int .i64 k] w fun e w' => e = .returned (.string (⟨#[114, 101, 103, 32]⟩ ++ nat ((k - R) / c.regs) ++ ⟨#[32]⟩ ++ nat ((k - R) % c.regs))) ∧ Below w.heap.size w w' := by
  have hk : 0 ≤ k := by omega
  obtain ⟨hr1, hr2⟩ := hr
  obtain ⟨i, hi⟩ : ∃ i, i = (k - R) / c.regs := ⟨_, rfl⟩
  obtain ⟨j, hj⟩ : ∃ j, j = (k - R) % c.regs := ⟨_, rfl⟩
  have hi0 : 0 ≤ i := by rw [hi]; exact Int.ediv_nonneg (by omega) (by omega)
  have hi1 : i ≤ 100000 := by rw [hi]; exact Int.le_trans (Int.ediv_le_self _ (by omega)) (by omega)
  have hj0 : 0 ≤ j := by rw [hj]; exact Int.emod_nonneg _ (by omega)
  have hj1 : j ≤ 64 := by have := Int.emod_lt_of_pos (k - R) (show 0 < c.regs by omega); omega
  rw [← hi, ← hj]
  have ni := nat_size i hi0 (by omega)
  have nj := nat_size j hj0 (by omega)
  obtain ⟨ti, hti⟩ : ∃ tn, tn = nat i := ⟨_, rfl⟩
  obtain ⟨tj, htj⟩ : ∃ tn, tn = nat j := ⟨_, rfl⟩
  rw [← hti] at ni ⊢
  rw [← htj] at nj ⊢
  have HI := Lib.hid hti
  have HJ := Lib.hid htj
  have HI2 := Lib.hid hi
  have HJ2 := Lib.hid hj
  have HIB : Hid (0 ≤ i ∧ i ≤ 9223372036854775807) := by unfold Hid; omega
  have HJB : Hid (0 ≤ j ∧ j ≤ 9223372036854775807) := by unfold Hid; omega
  clear hti htj hi hj
  have HM0 : Hid ((w.alloc c.mobj).heap[w.heap.size]? = some c.mobj) := heap_alloc_new w c.mobj
  obtain ⟨k0, k1, k2, k3⟩ := Cfg.mcells_at HM0.out
  have HS : Hid (c.words = S) := hS
  have HC : Hid (c.c0 = C) := hC
  have HR : Hid (c.r0 = R) := hR
  have HG : Hid (c.g0 = G) := hG
  have HT : Hid (Tens w) := ht
  have HB0 : Hid (Below w.heap.size w (w.alloc c.mobj)) := (Below.refl _ _).alloc (Nat.le_refl _) _
  clear hS hC hR hG ht
  go_enter Tryd.func57, Tryd.ntmps57
  go_wp2_with fail
  refine (size_any _ c).mono ?_
  rintro e w1 ⟨rfl, hb⟩
  rw [HS.out]
  have HB1 : Hid (Below w.heap.size w w1) := HB0.out.trans (hb.mono HB0.out.size)
  have HM1 : Hid (w1.heap[w.heap.size]? = some c.mobj) := (hb.block _ (block_lt HM0.out)).trans HM0.out
  clear k0 k1 k2 k3 hb
  obtain ⟨k0, k1, k2, k3⟩ := Cfg.mcells_at HM1.out
  go_wp2_with fail
  refine (cells_any _ c).mono ?_
  rintro e w2 ⟨rfl, hb⟩
  rw [HC.out]
  have HB2 : Hid (Below w.heap.size w w2) := HB1.out.trans (hb.mono HB1.out.size)
  have HM2 : Hid (w2.heap[w.heap.size]? = some c.mobj) := (hb.block _ (block_lt HM1.out)).trans HM1.out
  clear k0 k1 k2 k3 hb
  obtain ⟨k0, k1, k2, k3⟩ := Cfg.mcells_at HM2.out
  go_wp2_with fail
  refine (regs_any _ c).mono ?_
  rintro e w3 ⟨rfl, hb⟩
  rw [HR.out]
  have HB3 : Hid (Below w.heap.size w w3) := HB2.out.trans (hb.mono HB2.out.size)
  have HM3 : Hid (w3.heap[w.heap.size]? = some c.mobj) := (hb.block _ (block_lt HM2.out)).trans HM2.out
  clear k0 k1 k2 k3 hb
  obtain ⟨k0, k1, k2, k3⟩ := Cfg.mcells_at HM3.out
  go_wp2_with fail
  refine (regs_any _ c).mono ?_
  rintro e w4 ⟨rfl, hb⟩
  rw [HR.out]
  have HB4 : Hid (Below w.heap.size w w4) := HB3.out.trans (hb.mono HB3.out.size)
  have HM4 : Hid (w4.heap[w.heap.size]? = some c.mobj) := (hb.block _ (block_lt HM3.out)).trans HM3.out
  clear k0 k1 k2 k3 hb
  obtain ⟨k0, k1, k2, k3⟩ := Cfg.mcells_at HM4.out
  have q0 : ¬ c.regs = 0 := by omega
  have z1 : ¬ 9223372036854775807 < 4 + ti.size := by omega
  have z2 : ¬ 9223372036854775807 < 4 + ti.size + 1 := by omega
  have z3 : ¬ 9223372036854775807 < 4 + ti.size + 1 + tj.size := by omega
  have q1 : IntKind.i64.wrap ((k - R).tdiv c.regs) = i := by rw [Int.tdiv_eq_ediv_of_nonneg (by omega), ← HI2.out]; exact IntWalk.i64_in _ (by omega)
  have q1' : (k - R) / c.regs = i := HI2.out.symm
  have q2 : (k - R).tmod c.regs = j := by rw [Int.tmod_eq_emod_of_nonneg (by omega), ← HJ2.out]
  have q2' : (k - R) % c.regs = j := HJ2.out.symm
  have hm0 : 0 ≤ k - R := by omega
  go_wp2_with fail
  go_region_held3 (fun w' => w'.cell? ⟨w.heap.size, 0, none⟩ = some (.int .i64 c.cells) ∧ w'.cell? ⟨w.heap.size, 1, none⟩ = some (.int .i64 c.muts) ∧ w'.cell? ⟨w.heap.size, 2, none⟩ = some (.int .i64 c.regs) ∧ w'.cell? ⟨w.heap.size, 3, none⟩ = some (.int .i64 c.globs) ∧ w.heap.size < w'.heap.size ∧ Below w.heap.size w w')
    (first
      | exact ⟨k0, k1, k2, k3, block_lt HM4.out, HB4.out.drew⟩
      | (go_split_ands; refine ⟨?_, ?_, ?_, ?_, ?_, ?_⟩ <;> first | (rw [hb2.cell (by first | assumption | (simp; done) | (simp; assumption))]; assumption) | exact Below.trans (by assumption) (hb2.mono (Nat.le_of_lt (by first | assumption | (simp; assumption)))) | exact Nat.lt_of_lt_of_le (by first | assumption | (simp; assumption)) hb2.size)
      | fail)
    (first
      | (go_at_call 82; guard_target =~ Calls _ _ #[Value.int IntKind.i64 i] _ _; refine (itoa_nat _ i HIB.out (HT.out.below (Nat.le_refl _) (by go_split_ands; assumption))).mono ?_; rw [← HI.out]; rintro e wq ⟨rfl, hb2⟩)
      | (go_at_call 82; guard_target =~ Calls _ _ #[Value.int IntKind.i64 j] _ _; refine (itoa_nat _ j HJB.out (HT.out.below (Nat.le_refl _) (by go_split_ands; assumption))).mono ?_; rw [← HJ.out]; rintro e wq ⟨rfl, hb2⟩))
  go_wp2_with fail
  go_ret
  go_split_ands
  exact ⟨rfl, by assumption⟩
set_option maxHeartbeats 4000000 in
theorem pname_cell (d : Int) (hd : 0 ≤ d ∧ d < 3) (w : World) (c : Cfg) (k S C R G : Int) (ht : Tens w) (hS : c.words = S) (hC : c.c0 = C) (hR : c.r0 = R) (hG : c.g0 = G) (h3 : C ≤ k) (h4 : k < S) (hg : 0 ≤ C) (hz : k ≤ 100000) (hd2 : (k - C) % 3 = d) :
    Calls Tryd.prog 57 #[c.v, .int .i64 k] w fun e w' => e = .returned (.string (kindName (4 + d) ++ ⟨#[32]⟩ ++ nat ((k - C) / 3))) ∧ Below w.heap.size w w' := by
  have hk : 0 ≤ k := by omega
  have hn := nat_size ((k - C) / 3) (by omega) (by omega)
  have HNB : Hid (0 ≤ (k - C) / 3 ∧ (k - C) / 3 ≤ 9223372036854775807) := by unfold Hid; omega
  obtain ⟨tn, htn⟩ : ∃ tn, tn = nat ((k - C) / 3) := ⟨_, rfl⟩
  rw [← htn] at hn ⊢
  have HN := Lib.hid htn
  clear htn
  obtain rfl | rfl | rfl : d = 0 ∨ d = 1 ∨ d = 2 := by omega
  all_goals
    clear hd
    have HM0 : Hid ((w.alloc c.mobj).heap[w.heap.size]? = some c.mobj) := heap_alloc_new w c.mobj
    obtain ⟨k0, k1, k2, k3⟩ := Cfg.mcells_at HM0.out
    have HS : Hid (c.words = S) := hS
    have HC : Hid (c.c0 = C) := hC
    have HR : Hid (c.r0 = R) := hR
    have HG : Hid (c.g0 = G) := hG
    have HT : Hid (Tens w) := ht
    have HB0 : Hid (Below w.heap.size w (w.alloc c.mobj)) := (Below.refl _ _).alloc (Nat.le_refl _) _
    clear hS hC hR hG ht
    go_enter Tryd.func57, Tryd.ntmps57
    go_wp2_with fail
    refine (size_any _ c).mono ?_
    rintro e w1 ⟨rfl, hb⟩
    rw [HS.out]
    have HB1 : Hid (Below w.heap.size w w1) := HB0.out.trans (hb.mono HB0.out.size)
    have HM1 : Hid (w1.heap[w.heap.size]? = some c.mobj) := (hb.block _ (block_lt HM0.out)).trans HM0.out
    clear k0 k1 k2 k3 hb
    obtain ⟨k0, k1, k2, k3⟩ := Cfg.mcells_at HM1.out
    go_wp2_with fail
    refine (cells_any _ c).mono ?_
    rintro e w2 ⟨rfl, hb⟩
    rw [HC.out]
    have HB2 : Hid (Below w.heap.size w w2) := HB1.out.trans (hb.mono HB1.out.size)
    have HM2 : Hid (w2.heap[w.heap.size]? = some c.mobj) := (hb.block _ (block_lt HM1.out)).trans HM1.out
    clear k0 k1 k2 k3 hb
    obtain ⟨k0, k1, k2, k3⟩ := Cfg.mcells_at HM2.out
    go_wp2_with fail
    refine (cells_any _ c).mono ?_
    rintro e w3 ⟨rfl, hb⟩
    rw [HC.out]
    have HB3 : Hid (Below w.heap.size w w3) := HB2.out.trans (hb.mono HB2.out.size)
    have HM3 : Hid (w3.heap[w.heap.size]? = some c.mobj) := (hb.block _ (block_lt HM2.out)).trans HM2.out
    clear k0 k1 k2 k3 hb
    obtain ⟨k0, k1, k2, k3⟩ := Cfg.mcells_at HM3.out
    have hm0 : 0 ≤ k - C := by omega
    have q1 : IntKind.i64.wrap ((k - C).tdiv 3) = (k - C) / 3 := by rw [Int.tdiv_eq_ediv_of_nonneg (by omega)]; exact IntWalk.i64_in _ (by omega)
    have q2 : (k - C).tmod 3 = (k - C) % 3 := by rw [Int.tmod_eq_emod_of_nonneg (by omega)]
    go_wp2_with fail
    go_region_with (go_at_call 82; refine (itoa_nat _ _ HNB.out (HT.out.below (Nat.le_refl _) (by repeat (first | exact HB3.out | refine Below.alloc ?_ (by have := HB3.out.size; simp; omega) _ | refine Below.drew ?_)))).mono ?_; rw [← HN.out]; rintro e wq ⟨rfl, hb2⟩; try (have cb0 : wq.cell? ⟨w3.heap.size, 0, none⟩ = some (.string ⟨#[99, 97, 114]⟩) := (hb2.cell (by simp)).trans (cell_of_block (heap_alloc_new w3.drew _) 0)); try (have cb1 : wq.cell? ⟨w3.heap.size, 1, none⟩ = some (.string ⟨#[99, 100, 114]⟩) := (hb2.cell (by simp)).trans (cell_of_block (heap_alloc_new w3.drew _) 1)); try (have cb2 : wq.cell? ⟨w3.heap.size, 2, none⟩ = some (.string ⟨#[99, 111, 108, 111, 117, 114]⟩) := (hb2.cell (by simp)).trans (cell_of_block (heap_alloc_new w3.drew _) 2)))
    all_goals
      go_wp2_with fail
      go_ret
      refine ⟨by first | rfl | exact ret_str (by rfl), ?_⟩
      first
        | exact ((HB3.out.alloc HB3.out.size _).drew).trans (hb2.mono (by have := HB3.out.size; simp; omega))
        | exact ((HB3.out.drew).trans (hb2.mono (by have := HB3.out.size; simp; omega))).alloc (by have := HB3.out.size; have := hb2.size; simp at *; omega) _
end Go.Proofs.YtcheafeaioflmaaDoor
