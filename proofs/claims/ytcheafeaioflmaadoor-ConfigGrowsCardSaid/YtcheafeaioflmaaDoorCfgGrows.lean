/- The walk of the law ConfigGrows. -/
import Derived.Test.YtcheafeaioflmaaDoorCfgAwake
import Derived.Test.YtcheafeaioflmaaDoorCfgWalk2
import Derived.Test.YtcheafeaioflmaaDoorCfgWalk3
import Derived.Deep.RegionHeld3
namespace Go.Proofs.YtcheafeaioflmaaDoor
open Go Go.RowKit
set_option linter.unusedSimpArgs false
set_option linter.unusedVariables false

set_option maxHeartbeats 4000000 in
set_option maxRecDepth 100000 in
theorem cgrows_walk (w : World) (c : Cfg) (x : Int) (h0 : 0 ≤ x ∧ x ≤ 255) (ht : Tens w) (he : Errs w) (hm : MaxL w) :
    Calls Tryd.prog 8 #[c.v, .int .u8 x] w fun e w' => e = .returned (.bool true) ∧ Below w.heap.size w w' := by
  have HT := Lib.hid ht
  have HE := Lib.hid he
  have HM := Lib.hid hm
  clear ht he hm
  go_enter Tryd.func8, Tryd.ntmps8
  have HB0 : Hid (Below w.heap.size w (w.alloc c.obj)) := (Below.refl _ _).alloc (Nat.le_refl _) _
  have HC0 := Lib.hid (heap_alloc_new w c.obj)
  go_wp2_with fail
  refine (cfg_awake _ (HT.out.below (Nat.le_refl _) HB0.out) (HE.out.below (Nat.le_refl _) HB0.out) (HM.out.below (Nat.le_refl _) HB0.out)).mono ?_
  rintro e w1 ⟨rfl, hb⟩
  have HB1 : Hid (Below w.heap.size w w1) := HB0.out.trans (hb.mono HB0.out.size)
  have HC1 : Hid (w1.heap[w.heap.size]? = some c.obj) := (hb.block _ (by simp)).trans HC0.out
  clear hb
  obtain ⟨k0, k1, k2, k3⟩ := Cfg.cells_at HC1.out
  have hs1 := block_lt HC1.out
  go_wp2_with fail
  refine (check_any _ c).mono ?_
  rintro e w2 ⟨rfl, hb⟩
  have HB2 : Hid (Below w.heap.size w w2) := HB1.out.trans (hb.mono HB1.out.size)
  have HC2 : Hid (w2.heap[w.heap.size]? = some c.obj) := (hb.block _ hs1).trans HC1.out
  clear hb k0 k1 k2 k3
  obtain ⟨k0, k1, k2, k3⟩ := Cfg.cells_at HC2.out
  have hs2 := block_lt HC2.out
  by_cases ok : c.ok = true
  · have HER : Hid (c.err = 0) := by unfold Cfg.err Hid; rw [if_pos ok]
    rw [HER.out]
    have HOK := Lib.hid ok
    clear ok
    by_cases hx0 : x % 4 = 0
    · have e0 : (x % 4 == 0) = true := by rw [hx0]; rfl
      clear hx0
      obtain ⟨p, hp⟩ : ∃ p, p = c.cells + 1 := ⟨_, rfl⟩
      have s1 : IntKind.i64.wrap (c.cells + 1) = p := by rw [hp]; have := c.ok_iff.1 HOK.out; exact IntWalk.i64_in _ (by omega)
      have HPP := Lib.hid hp
      have HD : Hid ((c.more 0) = ⟨p, c.muts, c.regs, c.globs⟩) := by unfold Hid Cfg.more; rw [hp]; rfl
      clear hp
      have HGR : Hid ((⟨p, c.muts, c.regs, c.globs⟩ : Cfg).ok = true → _) := fun od => cfg_grows c 0 HOK.out (by rw [HD.out]; exact od)
      rw [HD.out] at HGR
      have HCKd : Hid (∀ W, Calls Tryd.prog 29 #[.agg #[.int .i64 p, .int .i64 c.muts, .int .i64 c.regs, .int .i64 c.globs]] W fun e w' => e = .returned (.int .i64 (⟨p, c.muts, c.regs, c.globs⟩ : Cfg).err) ∧ Below W.heap.size W w') := fun W => check_any W ⟨p, c.muts, c.regs, c.globs⟩
      have HWd : Hid (∀ W, Calls Tryd.prog 31 #[.agg #[.int .i64 p, .int .i64 c.muts, .int .i64 c.regs, .int .i64 c.globs]] W fun e w' => e = .returned (.int .i64 (⟨p, c.muts, c.regs, c.globs⟩ : Cfg).words) ∧ Below W.heap.size W w') := fun W => words_any W ⟨p, c.muts, c.regs, c.globs⟩
      have HWc : Hid (∀ W, Calls Tryd.prog 31 #[.agg #[.int .i64 c.cells, .int .i64 c.muts, .int .i64 c.regs, .int .i64 c.globs]] W fun e w' => e = .returned (.int .i64 c.words) ∧ Below W.heap.size W w') := fun W => words_any W c
      have HCd : Hid (∀ W, Calls Tryd.prog 34 #[.agg #[.int .i64 p, .int .i64 c.muts, .int .i64 c.regs, .int .i64 c.globs]] W fun e w' => e = .returned (.int .i64 (⟨p, c.muts, c.regs, c.globs⟩ : Cfg).cyc) ∧ Below W.heap.size W w') := fun W => cycrounds_any W ⟨p, c.muts, c.regs, c.globs⟩
      have HCc : Hid (∀ W, Calls Tryd.prog 34 #[.agg #[.int .i64 c.cells, .int .i64 c.muts, .int .i64 c.regs, .int .i64 c.globs]] W fun e w' => e = .returned (.int .i64 c.cyc) ∧ Below W.heap.size W w') := fun W => cycrounds_any W c
      have HOd : Hid (∀ W, Calls Tryd.prog 33 #[.agg #[.int .i64 p, .int .i64 c.muts, .int .i64 c.regs, .int .i64 c.globs]] W fun e w' => e = .returned (.int .i64 (⟨p, c.muts, c.regs, c.globs⟩ : Cfg).opr) ∧ Below W.heap.size W w') := fun W => oprounds_any W ⟨p, c.muts, c.regs, c.globs⟩
      have HOc : Hid (∀ W, Calls Tryd.prog 33 #[.agg #[.int .i64 c.cells, .int .i64 c.muts, .int .i64 c.regs, .int .i64 c.globs]] W fun e w' => e = .returned (.int .i64 c.opr) ∧ Below W.heap.size W w') := fun W => oprounds_any W c
      have HRd : Hid (∀ W, Calls Tryd.prog 30 #[.agg #[.int .i64 p, .int .i64 c.muts, .int .i64 c.regs, .int .i64 c.globs]] W fun e w' => e = .returned (.int .i64 (⟨p, c.muts, c.regs, c.globs⟩ : Cfg).roots) ∧ Below W.heap.size W w') := fun W => roots_any W ⟨p, c.muts, c.regs, c.globs⟩
      have HRc : Hid (∀ W, Calls Tryd.prog 30 #[.agg #[.int .i64 c.cells, .int .i64 c.muts, .int .i64 c.regs, .int .i64 c.globs]] W fun e w' => e = .returned (.int .i64 c.roots) ∧ Below W.heap.size W w') := fun W => roots_any W c
      have HXA : Hid ((w2.alloc (⟨p, c.muts, c.regs, c.globs⟩ : Cfg).obj).heap[w2.heap.size]? = some (⟨p, c.muts, c.regs, c.globs⟩ : Cfg).obj) := heap_alloc_new w2 _
      have HCA : Hid ((w2.alloc (⟨p, c.muts, c.regs, c.globs⟩ : Cfg).obj).heap[w.heap.size]? = some c.obj) := (Below.heap_alloc _ _ _ hs2).trans HC2.out
      have HBA : Hid (Below w.heap.size w (w2.alloc (⟨p, c.muts, c.regs, c.globs⟩ : Cfg).obj)) := HB2.out.alloc HB2.out.size _
      go_wp2_with fail
      refine (HCKd.out _).mono ?_
      rintro e w3 ⟨rfl, hb⟩
      have HB3 : Hid (Below w.heap.size w w3) := HBA.out.trans (hb.mono HBA.out.size)
      have HC3 : Hid (w3.heap[w.heap.size]? = some c.obj) := (hb.block _ (block_lt HCA.out)).trans HCA.out
      have HX3 : Hid (w3.heap[w2.heap.size]? = some (⟨p, c.muts, c.regs, c.globs⟩ : Cfg).obj) := (hb.block _ (block_lt HXA.out)).trans HXA.out
      clear hb k0 k1 k2 k3
      by_cases od : (⟨p, c.muts, c.regs, c.globs⟩ : Cfg).ok = true
      · have HERd : Hid ((⟨p, c.muts, c.regs, c.globs⟩ : Cfg).err = 0) := by unfold Cfg.err Hid; rw [if_pos od]
        rw [HERd.out]
        have HG := Lib.hid (HGR.out od)
        obtain ⟨k0, k1, k2, k3⟩ := Cfg.cells_at HC3.out
        obtain ⟨d0, d1, d2, d3⟩ := Cfg.cells_at HX3.out
        have hs3 := block_lt HX3.out
        clear od HGR
        generalize (⟨p, c.muts, c.regs, c.globs⟩ : Cfg).words = d_words at *
        generalize c.words = c_words at *
        generalize (⟨p, c.muts, c.regs, c.globs⟩ : Cfg).cyc = d_cyc at *
        generalize c.cyc = c_cyc at *
        generalize (⟨p, c.muts, c.regs, c.globs⟩ : Cfg).opr = d_opr at *
        generalize c.opr = c_opr at *
        generalize (⟨p, c.muts, c.regs, c.globs⟩ : Cfg).roots = d_roots at *
        generalize c.roots = c_roots at *
        have t1 : decide (c_words < d_words) = true := by simpa using HG.out.1
        have t2 : decide (c_cyc < d_cyc) = true := by simpa using HG.out.2.1
        have t3 : (d_opr == c_opr) = true := by have h := HG.out.2.2.1; rw [beq_iff_eq]; exact h.2 (by simp)
        have t5 : decide (c_roots ≤ d_roots) = true := by simpa using HG.out.2.2.2
        have t6 : decide (d_roots < c_roots) = false := by have := HG.out.2.2.2; simpa using this
        have t4 : (c.muts == c.muts) = true := by simp
        have HALL : Hid (∀ W, Below w3.heap.size w3 W → W.cell? ⟨w.heap.size, 0, none⟩ = some (.int .i64 c.cells) ∧ W.cell? ⟨w.heap.size, 1, none⟩ = some (.int .i64 c.muts) ∧ W.cell? ⟨w.heap.size, 2, none⟩ = some (.int .i64 c.regs) ∧ W.cell? ⟨w.heap.size, 3, none⟩ = some (.int .i64 c.globs) ∧ W.cell? ⟨w2.heap.size, 0, none⟩ = some (.int .i64 p) ∧ W.cell? ⟨w2.heap.size, 1, none⟩ = some (.int .i64 c.muts) ∧ W.cell? ⟨w2.heap.size, 2, none⟩ = some (.int .i64 c.regs) ∧ W.cell? ⟨w2.heap.size, 3, none⟩ = some (.int .i64 c.globs) ∧ Below w3.heap.size w3 W) := fun W hB => by
          obtain ⟨f0, f1, f2, f3⟩ := Cfg.cells_at ((hB.block _ (block_lt HC3.out)).trans HC3.out)
          obtain ⟨g0, g1, g2, g3⟩ := Cfg.cells_at ((hB.block _ (block_lt HX3.out)).trans HX3.out)
          exact ⟨f0, f1, f2, f3, g0, g1, g2, g3, hB⟩
        go_wp2_with fail
        go_region_held3 (fun W => W.cell? ⟨w.heap.size, 0, none⟩ = some (.int .i64 c.cells) ∧ W.cell? ⟨w.heap.size, 1, none⟩ = some (.int .i64 c.muts) ∧ W.cell? ⟨w.heap.size, 2, none⟩ = some (.int .i64 c.regs) ∧ W.cell? ⟨w.heap.size, 3, none⟩ = some (.int .i64 c.globs) ∧ W.cell? ⟨w2.heap.size, 0, none⟩ = some (.int .i64 p) ∧ W.cell? ⟨w2.heap.size, 1, none⟩ = some (.int .i64 c.muts) ∧ W.cell? ⟨w2.heap.size, 2, none⟩ = some (.int .i64 c.regs) ∧ W.cell? ⟨w2.heap.size, 3, none⟩ = some (.int .i64 c.globs) ∧ Below w3.heap.size w3 W)
          (first | exact HALL.out _ (Below.refl _ _) | exact HALL.out _ (Below.refl _ _).drew | (go_split_ands; exact HALL.out _ (Below.trans (by assumption) (hb2.mono (Below.size (by assumption))))) | fail)
          (first | (go_at_call_of 31 (Value.int IntKind.i64 p); refine (HWd.out _).mono ?_; rintro e wq ⟨rfl, hb2⟩) | (go_at_call_of 31 (Value.int IntKind.i64 c.cells); refine (HWc.out _).mono ?_; rintro e wq ⟨rfl, hb2⟩) | (go_at_call_of 34 (Value.int IntKind.i64 p); refine (HCd.out _).mono ?_; rintro e wq ⟨rfl, hb2⟩) | (go_at_call_of 34 (Value.int IntKind.i64 c.cells); refine (HCc.out _).mono ?_; rintro e wq ⟨rfl, hb2⟩) | (go_at_call_of 33 (Value.int IntKind.i64 p); refine (HOd.out _).mono ?_; rintro e wq ⟨rfl, hb2⟩) | (go_at_call_of 33 (Value.int IntKind.i64 c.cells); refine (HOc.out _).mono ?_; rintro e wq ⟨rfl, hb2⟩) | (go_at_call_of 30 (Value.int IntKind.i64 p); refine (HRd.out _).mono ?_; rintro e wq ⟨rfl, hb2⟩) | (go_at_call_of 30 (Value.int IntKind.i64 c.cells); refine (HRc.out _).mono ?_; rintro e wq ⟨rfl, hb2⟩))
        all_goals
         go_wp2_with fail
         go_ret
         go_split_ands
         exact ⟨by first | rfl | (simp; done), HB3.out.trans (Below.mono (by assumption) HB3.out.size)⟩
      · have HERd : Hid ((⟨p, c.muts, c.regs, c.globs⟩ : Cfg).err = 2) := by unfold Cfg.err Hid; rw [if_neg od]
        rw [HERd.out]
        go_wp2_with fail
        go_ret
        exact ⟨rfl, HB3.out⟩
    have e0 : (x % 4 == 0) = false := by rw [beq_eq_false_iff_ne]; exact hx0
    by_cases hx1 : x % 4 = 1
    · have e1 : (x % 4 == 1) = true := by rw [hx1]; rfl
      clear hx0 hx1
      obtain ⟨p, hp⟩ : ∃ p, p = c.muts + 1 := ⟨_, rfl⟩
      have s1 : IntKind.i64.wrap (c.muts + 1) = p := by rw [hp]; have := c.ok_iff.1 HOK.out; exact IntWalk.i64_in _ (by omega)
      have HPP := Lib.hid hp
      have HD : Hid ((c.more 1) = ⟨c.cells, p, c.regs, c.globs⟩) := by unfold Hid Cfg.more; rw [hp]; rfl
      clear hp
      have HGR : Hid ((⟨c.cells, p, c.regs, c.globs⟩ : Cfg).ok = true → _) := fun od => cfg_grows c 1 HOK.out (by rw [HD.out]; exact od)
      rw [HD.out] at HGR
      have HCKd : Hid (∀ W, Calls Tryd.prog 29 #[.agg #[.int .i64 c.cells, .int .i64 p, .int .i64 c.regs, .int .i64 c.globs]] W fun e w' => e = .returned (.int .i64 (⟨c.cells, p, c.regs, c.globs⟩ : Cfg).err) ∧ Below W.heap.size W w') := fun W => check_any W ⟨c.cells, p, c.regs, c.globs⟩
      have HWd : Hid (∀ W, Calls Tryd.prog 31 #[.agg #[.int .i64 c.cells, .int .i64 p, .int .i64 c.regs, .int .i64 c.globs]] W fun e w' => e = .returned (.int .i64 (⟨c.cells, p, c.regs, c.globs⟩ : Cfg).words) ∧ Below W.heap.size W w') := fun W => words_any W ⟨c.cells, p, c.regs, c.globs⟩
      have HWc : Hid (∀ W, Calls Tryd.prog 31 #[.agg #[.int .i64 c.cells, .int .i64 c.muts, .int .i64 c.regs, .int .i64 c.globs]] W fun e w' => e = .returned (.int .i64 c.words) ∧ Below W.heap.size W w') := fun W => words_any W c
      have HCd : Hid (∀ W, Calls Tryd.prog 34 #[.agg #[.int .i64 c.cells, .int .i64 p, .int .i64 c.regs, .int .i64 c.globs]] W fun e w' => e = .returned (.int .i64 (⟨c.cells, p, c.regs, c.globs⟩ : Cfg).cyc) ∧ Below W.heap.size W w') := fun W => cycrounds_any W ⟨c.cells, p, c.regs, c.globs⟩
      have HCc : Hid (∀ W, Calls Tryd.prog 34 #[.agg #[.int .i64 c.cells, .int .i64 c.muts, .int .i64 c.regs, .int .i64 c.globs]] W fun e w' => e = .returned (.int .i64 c.cyc) ∧ Below W.heap.size W w') := fun W => cycrounds_any W c
      have HOd : Hid (∀ W, Calls Tryd.prog 33 #[.agg #[.int .i64 c.cells, .int .i64 p, .int .i64 c.regs, .int .i64 c.globs]] W fun e w' => e = .returned (.int .i64 (⟨c.cells, p, c.regs, c.globs⟩ : Cfg).opr) ∧ Below W.heap.size W w') := fun W => oprounds_any W ⟨c.cells, p, c.regs, c.globs⟩
      have HOc : Hid (∀ W, Calls Tryd.prog 33 #[.agg #[.int .i64 c.cells, .int .i64 c.muts, .int .i64 c.regs, .int .i64 c.globs]] W fun e w' => e = .returned (.int .i64 c.opr) ∧ Below W.heap.size W w') := fun W => oprounds_any W c
      have HRd : Hid (∀ W, Calls Tryd.prog 30 #[.agg #[.int .i64 c.cells, .int .i64 p, .int .i64 c.regs, .int .i64 c.globs]] W fun e w' => e = .returned (.int .i64 (⟨c.cells, p, c.regs, c.globs⟩ : Cfg).roots) ∧ Below W.heap.size W w') := fun W => roots_any W ⟨c.cells, p, c.regs, c.globs⟩
      have HRc : Hid (∀ W, Calls Tryd.prog 30 #[.agg #[.int .i64 c.cells, .int .i64 c.muts, .int .i64 c.regs, .int .i64 c.globs]] W fun e w' => e = .returned (.int .i64 c.roots) ∧ Below W.heap.size W w') := fun W => roots_any W c
      have HXA : Hid ((w2.alloc (⟨c.cells, p, c.regs, c.globs⟩ : Cfg).obj).heap[w2.heap.size]? = some (⟨c.cells, p, c.regs, c.globs⟩ : Cfg).obj) := heap_alloc_new w2 _
      have HCA : Hid ((w2.alloc (⟨c.cells, p, c.regs, c.globs⟩ : Cfg).obj).heap[w.heap.size]? = some c.obj) := (Below.heap_alloc _ _ _ hs2).trans HC2.out
      have HBA : Hid (Below w.heap.size w (w2.alloc (⟨c.cells, p, c.regs, c.globs⟩ : Cfg).obj)) := HB2.out.alloc HB2.out.size _
      go_wp2_with fail
      refine (HCKd.out _).mono ?_
      rintro e w3 ⟨rfl, hb⟩
      have HB3 : Hid (Below w.heap.size w w3) := HBA.out.trans (hb.mono HBA.out.size)
      have HC3 : Hid (w3.heap[w.heap.size]? = some c.obj) := (hb.block _ (block_lt HCA.out)).trans HCA.out
      have HX3 : Hid (w3.heap[w2.heap.size]? = some (⟨c.cells, p, c.regs, c.globs⟩ : Cfg).obj) := (hb.block _ (block_lt HXA.out)).trans HXA.out
      clear hb k0 k1 k2 k3
      by_cases od : (⟨c.cells, p, c.regs, c.globs⟩ : Cfg).ok = true
      · have HERd : Hid ((⟨c.cells, p, c.regs, c.globs⟩ : Cfg).err = 0) := by unfold Cfg.err Hid; rw [if_pos od]
        rw [HERd.out]
        have HG := Lib.hid (HGR.out od)
        obtain ⟨k0, k1, k2, k3⟩ := Cfg.cells_at HC3.out
        obtain ⟨d0, d1, d2, d3⟩ := Cfg.cells_at HX3.out
        have hs3 := block_lt HX3.out
        clear od HGR
        generalize (⟨c.cells, p, c.regs, c.globs⟩ : Cfg).words = d_words at *
        generalize c.words = c_words at *
        generalize (⟨c.cells, p, c.regs, c.globs⟩ : Cfg).cyc = d_cyc at *
        generalize c.cyc = c_cyc at *
        generalize (⟨c.cells, p, c.regs, c.globs⟩ : Cfg).opr = d_opr at *
        generalize c.opr = c_opr at *
        generalize (⟨c.cells, p, c.regs, c.globs⟩ : Cfg).roots = d_roots at *
        generalize c.roots = c_roots at *
        have t1 : decide (c_words < d_words) = true := by simpa using HG.out.1
        have t2 : decide (c_cyc < d_cyc) = true := by simpa using HG.out.2.1
        have t3 : (d_opr == c_opr) = false := by have h := HG.out.2.2.1; rw [beq_eq_false_iff_ne]; intro e; have := h.1 e; have := HPP.out; omega
        have t5 : decide (c_roots ≤ d_roots) = true := by simpa using HG.out.2.2.2
        have t6 : decide (d_roots < c_roots) = false := by have := HG.out.2.2.2; simpa using this
        have t4 : (p == c.muts) = false := by rw [beq_eq_false_iff_ne]; have := HPP.out; omega
        have HALL : Hid (∀ W, Below w3.heap.size w3 W → W.cell? ⟨w.heap.size, 0, none⟩ = some (.int .i64 c.cells) ∧ W.cell? ⟨w.heap.size, 1, none⟩ = some (.int .i64 c.muts) ∧ W.cell? ⟨w.heap.size, 2, none⟩ = some (.int .i64 c.regs) ∧ W.cell? ⟨w.heap.size, 3, none⟩ = some (.int .i64 c.globs) ∧ W.cell? ⟨w2.heap.size, 0, none⟩ = some (.int .i64 c.cells) ∧ W.cell? ⟨w2.heap.size, 1, none⟩ = some (.int .i64 p) ∧ W.cell? ⟨w2.heap.size, 2, none⟩ = some (.int .i64 c.regs) ∧ W.cell? ⟨w2.heap.size, 3, none⟩ = some (.int .i64 c.globs) ∧ Below w3.heap.size w3 W) := fun W hB => by
          obtain ⟨f0, f1, f2, f3⟩ := Cfg.cells_at ((hB.block _ (block_lt HC3.out)).trans HC3.out)
          obtain ⟨g0, g1, g2, g3⟩ := Cfg.cells_at ((hB.block _ (block_lt HX3.out)).trans HX3.out)
          exact ⟨f0, f1, f2, f3, g0, g1, g2, g3, hB⟩
        go_wp2_with fail
        go_region_held3 (fun W => W.cell? ⟨w.heap.size, 0, none⟩ = some (.int .i64 c.cells) ∧ W.cell? ⟨w.heap.size, 1, none⟩ = some (.int .i64 c.muts) ∧ W.cell? ⟨w.heap.size, 2, none⟩ = some (.int .i64 c.regs) ∧ W.cell? ⟨w.heap.size, 3, none⟩ = some (.int .i64 c.globs) ∧ W.cell? ⟨w2.heap.size, 0, none⟩ = some (.int .i64 c.cells) ∧ W.cell? ⟨w2.heap.size, 1, none⟩ = some (.int .i64 p) ∧ W.cell? ⟨w2.heap.size, 2, none⟩ = some (.int .i64 c.regs) ∧ W.cell? ⟨w2.heap.size, 3, none⟩ = some (.int .i64 c.globs) ∧ Below w3.heap.size w3 W)
          (first | exact HALL.out _ (Below.refl _ _) | exact HALL.out _ (Below.refl _ _).drew | (go_split_ands; exact HALL.out _ (Below.trans (by assumption) (hb2.mono (Below.size (by assumption))))) | fail)
          (first | (go_at_call_of 31 (Value.int IntKind.i64 p); refine (HWd.out _).mono ?_; rintro e wq ⟨rfl, hb2⟩) | (go_at_call_of 31 (Value.int IntKind.i64 c.muts); refine (HWc.out _).mono ?_; rintro e wq ⟨rfl, hb2⟩) | (go_at_call_of 34 (Value.int IntKind.i64 p); refine (HCd.out _).mono ?_; rintro e wq ⟨rfl, hb2⟩) | (go_at_call_of 34 (Value.int IntKind.i64 c.muts); refine (HCc.out _).mono ?_; rintro e wq ⟨rfl, hb2⟩) | (go_at_call_of 33 (Value.int IntKind.i64 p); refine (HOd.out _).mono ?_; rintro e wq ⟨rfl, hb2⟩) | (go_at_call_of 33 (Value.int IntKind.i64 c.muts); refine (HOc.out _).mono ?_; rintro e wq ⟨rfl, hb2⟩) | (go_at_call_of 30 (Value.int IntKind.i64 p); refine (HRd.out _).mono ?_; rintro e wq ⟨rfl, hb2⟩) | (go_at_call_of 30 (Value.int IntKind.i64 c.muts); refine (HRc.out _).mono ?_; rintro e wq ⟨rfl, hb2⟩))
        all_goals
         go_wp2_with fail
         go_ret
         go_split_ands
         exact ⟨by first | rfl | (simp; done), HB3.out.trans (Below.mono (by assumption) HB3.out.size)⟩
      · have HERd : Hid ((⟨c.cells, p, c.regs, c.globs⟩ : Cfg).err = 2) := by unfold Cfg.err Hid; rw [if_neg od]
        rw [HERd.out]
        go_wp2_with fail
        go_ret
        exact ⟨rfl, HB3.out⟩
    have e1 : (x % 4 == 1) = false := by rw [beq_eq_false_iff_ne]; exact hx1
    by_cases hx2 : x % 4 = 2
    · have e2 : (x % 4 == 2) = true := by rw [hx2]; rfl
      clear hx0 hx1 hx2
      obtain ⟨p, hp⟩ : ∃ p, p = c.regs + 1 := ⟨_, rfl⟩
      have s1 : IntKind.i64.wrap (c.regs + 1) = p := by rw [hp]; have := c.ok_iff.1 HOK.out; exact IntWalk.i64_in _ (by omega)
      have HPP := Lib.hid hp
      have HD : Hid ((c.more 2) = ⟨c.cells, c.muts, p, c.globs⟩) := by unfold Hid Cfg.more; rw [hp]; rfl
      clear hp
      have HGR : Hid ((⟨c.cells, c.muts, p, c.globs⟩ : Cfg).ok = true → _) := fun od => cfg_grows c 2 HOK.out (by rw [HD.out]; exact od)
      rw [HD.out] at HGR
      have HCKd : Hid (∀ W, Calls Tryd.prog 29 #[.agg #[.int .i64 c.cells, .int .i64 c.muts, .int .i64 p, .int .i64 c.globs]] W fun e w' => e = .returned (.int .i64 (⟨c.cells, c.muts, p, c.globs⟩ : Cfg).err) ∧ Below W.heap.size W w') := fun W => check_any W ⟨c.cells, c.muts, p, c.globs⟩
      have HWd : Hid (∀ W, Calls Tryd.prog 31 #[.agg #[.int .i64 c.cells, .int .i64 c.muts, .int .i64 p, .int .i64 c.globs]] W fun e w' => e = .returned (.int .i64 (⟨c.cells, c.muts, p, c.globs⟩ : Cfg).words) ∧ Below W.heap.size W w') := fun W => words_any W ⟨c.cells, c.muts, p, c.globs⟩
      have HWc : Hid (∀ W, Calls Tryd.prog 31 #[.agg #[.int .i64 c.cells, .int .i64 c.muts, .int .i64 c.regs, .int .i64 c.globs]] W fun e w' => e = .returned (.int .i64 c.words) ∧ Below W.heap.size W w') := fun W => words_any W c
      have HCd : Hid (∀ W, Calls Tryd.prog 34 #[.agg #[.int .i64 c.cells, .int .i64 c.muts, .int .i64 p, .int .i64 c.globs]] W fun e w' => e = .returned (.int .i64 (⟨c.cells, c.muts, p, c.globs⟩ : Cfg).cyc) ∧ Below W.heap.size W w') := fun W => cycrounds_any W ⟨c.cells, c.muts, p, c.globs⟩
      have HCc : Hid (∀ W, Calls Tryd.prog 34 #[.agg #[.int .i64 c.cells, .int .i64 c.muts, .int .i64 c.regs, .int .i64 c.globs]] W fun e w' => e = .returned (.int .i64 c.cyc) ∧ Below W.heap.size W w') := fun W => cycrounds_any W c
      have HOd : Hid (∀ W, Calls Tryd.prog 33 #[.agg #[.int .i64 c.cells, .int .i64 c.muts, .int .i64 p, .int .i64 c.globs]] W fun e w' => e = .returned (.int .i64 (⟨c.cells, c.muts, p, c.globs⟩ : Cfg).opr) ∧ Below W.heap.size W w') := fun W => oprounds_any W ⟨c.cells, c.muts, p, c.globs⟩
      have HOc : Hid (∀ W, Calls Tryd.prog 33 #[.agg #[.int .i64 c.cells, .int .i64 c.muts, .int .i64 c.regs, .int .i64 c.globs]] W fun e w' => e = .returned (.int .i64 c.opr) ∧ Below W.heap.size W w') := fun W => oprounds_any W c
      have HRd : Hid (∀ W, Calls Tryd.prog 30 #[.agg #[.int .i64 c.cells, .int .i64 c.muts, .int .i64 p, .int .i64 c.globs]] W fun e w' => e = .returned (.int .i64 (⟨c.cells, c.muts, p, c.globs⟩ : Cfg).roots) ∧ Below W.heap.size W w') := fun W => roots_any W ⟨c.cells, c.muts, p, c.globs⟩
      have HRc : Hid (∀ W, Calls Tryd.prog 30 #[.agg #[.int .i64 c.cells, .int .i64 c.muts, .int .i64 c.regs, .int .i64 c.globs]] W fun e w' => e = .returned (.int .i64 c.roots) ∧ Below W.heap.size W w') := fun W => roots_any W c
      have HXA : Hid ((w2.alloc (⟨c.cells, c.muts, p, c.globs⟩ : Cfg).obj).heap[w2.heap.size]? = some (⟨c.cells, c.muts, p, c.globs⟩ : Cfg).obj) := heap_alloc_new w2 _
      have HCA : Hid ((w2.alloc (⟨c.cells, c.muts, p, c.globs⟩ : Cfg).obj).heap[w.heap.size]? = some c.obj) := (Below.heap_alloc _ _ _ hs2).trans HC2.out
      have HBA : Hid (Below w.heap.size w (w2.alloc (⟨c.cells, c.muts, p, c.globs⟩ : Cfg).obj)) := HB2.out.alloc HB2.out.size _
      go_wp2_with fail
      refine (HCKd.out _).mono ?_
      rintro e w3 ⟨rfl, hb⟩
      have HB3 : Hid (Below w.heap.size w w3) := HBA.out.trans (hb.mono HBA.out.size)
      have HC3 : Hid (w3.heap[w.heap.size]? = some c.obj) := (hb.block _ (block_lt HCA.out)).trans HCA.out
      have HX3 : Hid (w3.heap[w2.heap.size]? = some (⟨c.cells, c.muts, p, c.globs⟩ : Cfg).obj) := (hb.block _ (block_lt HXA.out)).trans HXA.out
      clear hb k0 k1 k2 k3
      by_cases od : (⟨c.cells, c.muts, p, c.globs⟩ : Cfg).ok = true
      · have HERd : Hid ((⟨c.cells, c.muts, p, c.globs⟩ : Cfg).err = 0) := by unfold Cfg.err Hid; rw [if_pos od]
        rw [HERd.out]
        have HG := Lib.hid (HGR.out od)
        obtain ⟨k0, k1, k2, k3⟩ := Cfg.cells_at HC3.out
        obtain ⟨d0, d1, d2, d3⟩ := Cfg.cells_at HX3.out
        have hs3 := block_lt HX3.out
        clear od HGR
        generalize (⟨c.cells, c.muts, p, c.globs⟩ : Cfg).words = d_words at *
        generalize c.words = c_words at *
        generalize (⟨c.cells, c.muts, p, c.globs⟩ : Cfg).cyc = d_cyc at *
        generalize c.cyc = c_cyc at *
        generalize (⟨c.cells, c.muts, p, c.globs⟩ : Cfg).opr = d_opr at *
        generalize c.opr = c_opr at *
        generalize (⟨c.cells, c.muts, p, c.globs⟩ : Cfg).roots = d_roots at *
        generalize c.roots = c_roots at *
        have t1 : decide (c_words < d_words) = true := by simpa using HG.out.1
        have t2 : decide (c_cyc < d_cyc) = true := by simpa using HG.out.2.1
        have t3 : (d_opr == c_opr) = true := by have h := HG.out.2.2.1; rw [beq_iff_eq]; exact h.2 (by simp)
        have t5 : decide (c_roots ≤ d_roots) = true := by simpa using HG.out.2.2.2
        have t6 : decide (d_roots < c_roots) = false := by have := HG.out.2.2.2; simpa using this
        have t4 : (c.muts == c.muts) = true := by simp
        have HALL : Hid (∀ W, Below w3.heap.size w3 W → W.cell? ⟨w.heap.size, 0, none⟩ = some (.int .i64 c.cells) ∧ W.cell? ⟨w.heap.size, 1, none⟩ = some (.int .i64 c.muts) ∧ W.cell? ⟨w.heap.size, 2, none⟩ = some (.int .i64 c.regs) ∧ W.cell? ⟨w.heap.size, 3, none⟩ = some (.int .i64 c.globs) ∧ W.cell? ⟨w2.heap.size, 0, none⟩ = some (.int .i64 c.cells) ∧ W.cell? ⟨w2.heap.size, 1, none⟩ = some (.int .i64 c.muts) ∧ W.cell? ⟨w2.heap.size, 2, none⟩ = some (.int .i64 p) ∧ W.cell? ⟨w2.heap.size, 3, none⟩ = some (.int .i64 c.globs) ∧ Below w3.heap.size w3 W) := fun W hB => by
          obtain ⟨f0, f1, f2, f3⟩ := Cfg.cells_at ((hB.block _ (block_lt HC3.out)).trans HC3.out)
          obtain ⟨g0, g1, g2, g3⟩ := Cfg.cells_at ((hB.block _ (block_lt HX3.out)).trans HX3.out)
          exact ⟨f0, f1, f2, f3, g0, g1, g2, g3, hB⟩
        go_wp2_with fail
        go_region_held3 (fun W => W.cell? ⟨w.heap.size, 0, none⟩ = some (.int .i64 c.cells) ∧ W.cell? ⟨w.heap.size, 1, none⟩ = some (.int .i64 c.muts) ∧ W.cell? ⟨w.heap.size, 2, none⟩ = some (.int .i64 c.regs) ∧ W.cell? ⟨w.heap.size, 3, none⟩ = some (.int .i64 c.globs) ∧ W.cell? ⟨w2.heap.size, 0, none⟩ = some (.int .i64 c.cells) ∧ W.cell? ⟨w2.heap.size, 1, none⟩ = some (.int .i64 c.muts) ∧ W.cell? ⟨w2.heap.size, 2, none⟩ = some (.int .i64 p) ∧ W.cell? ⟨w2.heap.size, 3, none⟩ = some (.int .i64 c.globs) ∧ Below w3.heap.size w3 W)
          (first | exact HALL.out _ (Below.refl _ _) | exact HALL.out _ (Below.refl _ _).drew | (go_split_ands; exact HALL.out _ (Below.trans (by assumption) (hb2.mono (Below.size (by assumption))))) | fail)
          (first | (go_at_call_of 31 (Value.int IntKind.i64 p); refine (HWd.out _).mono ?_; rintro e wq ⟨rfl, hb2⟩) | (go_at_call_of 31 (Value.int IntKind.i64 c.regs); refine (HWc.out _).mono ?_; rintro e wq ⟨rfl, hb2⟩) | (go_at_call_of 34 (Value.int IntKind.i64 p); refine (HCd.out _).mono ?_; rintro e wq ⟨rfl, hb2⟩) | (go_at_call_of 34 (Value.int IntKind.i64 c.regs); refine (HCc.out _).mono ?_; rintro e wq ⟨rfl, hb2⟩) | (go_at_call_of 33 (Value.int IntKind.i64 p); refine (HOd.out _).mono ?_; rintro e wq ⟨rfl, hb2⟩) | (go_at_call_of 33 (Value.int IntKind.i64 c.regs); refine (HOc.out _).mono ?_; rintro e wq ⟨rfl, hb2⟩) | (go_at_call_of 30 (Value.int IntKind.i64 p); refine (HRd.out _).mono ?_; rintro e wq ⟨rfl, hb2⟩) | (go_at_call_of 30 (Value.int IntKind.i64 c.regs); refine (HRc.out _).mono ?_; rintro e wq ⟨rfl, hb2⟩))
        all_goals
         go_wp2_with fail
         go_ret
         go_split_ands
         exact ⟨by first | rfl | (simp; done), HB3.out.trans (Below.mono (by assumption) HB3.out.size)⟩
      · have HERd : Hid ((⟨c.cells, c.muts, p, c.globs⟩ : Cfg).err = 2) := by unfold Cfg.err Hid; rw [if_neg od]
        rw [HERd.out]
        go_wp2_with fail
        go_ret
        exact ⟨rfl, HB3.out⟩
    have e2 : (x % 4 == 2) = false := by rw [beq_eq_false_iff_ne]; exact hx2
    clear hx0 hx1 hx2
    obtain ⟨p, hp⟩ : ∃ p, p = c.globs + 1 := ⟨_, rfl⟩
    have s1 : IntKind.i64.wrap (c.globs + 1) = p := by rw [hp]; have := c.ok_iff.1 HOK.out; exact IntWalk.i64_in _ (by omega)
    have HPP := Lib.hid hp
    have HD : Hid ((c.more 3) = ⟨c.cells, c.muts, c.regs, p⟩) := by unfold Hid Cfg.more; rw [hp]; rfl
    clear hp
    have HGR : Hid ((⟨c.cells, c.muts, c.regs, p⟩ : Cfg).ok = true → _) := fun od => cfg_grows c 3 HOK.out (by rw [HD.out]; exact od)
    rw [HD.out] at HGR
    have HCKd : Hid (∀ W, Calls Tryd.prog 29 #[.agg #[.int .i64 c.cells, .int .i64 c.muts, .int .i64 c.regs, .int .i64 p]] W fun e w' => e = .returned (.int .i64 (⟨c.cells, c.muts, c.regs, p⟩ : Cfg).err) ∧ Below W.heap.size W w') := fun W => check_any W ⟨c.cells, c.muts, c.regs, p⟩
    have HWd : Hid (∀ W, Calls Tryd.prog 31 #[.agg #[.int .i64 c.cells, .int .i64 c.muts, .int .i64 c.regs, .int .i64 p]] W fun e w' => e = .returned (.int .i64 (⟨c.cells, c.muts, c.regs, p⟩ : Cfg).words) ∧ Below W.heap.size W w') := fun W => words_any W ⟨c.cells, c.muts, c.regs, p⟩
    have HWc : Hid (∀ W, Calls Tryd.prog 31 #[.agg #[.int .i64 c.cells, .int .i64 c.muts, .int .i64 c.regs, .int .i64 c.globs]] W fun e w' => e = .returned (.int .i64 c.words) ∧ Below W.heap.size W w') := fun W => words_any W c
    have HCd : Hid (∀ W, Calls Tryd.prog 34 #[.agg #[.int .i64 c.cells, .int .i64 c.muts, .int .i64 c.regs, .int .i64 p]] W fun e w' => e = .returned (.int .i64 (⟨c.cells, c.muts, c.regs, p⟩ : Cfg).cyc) ∧ Below W.heap.size W w') := fun W => cycrounds_any W ⟨c.cells, c.muts, c.regs, p⟩
    have HCc : Hid (∀ W, Calls Tryd.prog 34 #[.agg #[.int .i64 c.cells, .int .i64 c.muts, .int .i64 c.regs, .int .i64 c.globs]] W fun e w' => e = .returned (.int .i64 c.cyc) ∧ Below W.heap.size W w') := fun W => cycrounds_any W c
    have HOd : Hid (∀ W, Calls Tryd.prog 33 #[.agg #[.int .i64 c.cells, .int .i64 c.muts, .int .i64 c.regs, .int .i64 p]] W fun e w' => e = .returned (.int .i64 (⟨c.cells, c.muts, c.regs, p⟩ : Cfg).opr) ∧ Below W.heap.size W w') := fun W => oprounds_any W ⟨c.cells, c.muts, c.regs, p⟩
    have HOc : Hid (∀ W, Calls Tryd.prog 33 #[.agg #[.int .i64 c.cells, .int .i64 c.muts, .int .i64 c.regs, .int .i64 c.globs]] W fun e w' => e = .returned (.int .i64 c.opr) ∧ Below W.heap.size W w') := fun W => oprounds_any W c
    have HRd : Hid (∀ W, Calls Tryd.prog 30 #[.agg #[.int .i64 c.cells, .int .i64 c.muts, .int .i64 c.regs, .int .i64 p]] W fun e w' => e = .returned (.int .i64 (⟨c.cells, c.muts, c.regs, p⟩ : Cfg).roots) ∧ Below W.heap.size W w') := fun W => roots_any W ⟨c.cells, c.muts, c.regs, p⟩
    have HRc : Hid (∀ W, Calls Tryd.prog 30 #[.agg #[.int .i64 c.cells, .int .i64 c.muts, .int .i64 c.regs, .int .i64 c.globs]] W fun e w' => e = .returned (.int .i64 c.roots) ∧ Below W.heap.size W w') := fun W => roots_any W c
    have HXA : Hid ((w2.alloc (⟨c.cells, c.muts, c.regs, p⟩ : Cfg).obj).heap[w2.heap.size]? = some (⟨c.cells, c.muts, c.regs, p⟩ : Cfg).obj) := heap_alloc_new w2 _
    have HCA : Hid ((w2.alloc (⟨c.cells, c.muts, c.regs, p⟩ : Cfg).obj).heap[w.heap.size]? = some c.obj) := (Below.heap_alloc _ _ _ hs2).trans HC2.out
    have HBA : Hid (Below w.heap.size w (w2.alloc (⟨c.cells, c.muts, c.regs, p⟩ : Cfg).obj)) := HB2.out.alloc HB2.out.size _
    go_wp2_with fail
    refine (HCKd.out _).mono ?_
    rintro e w3 ⟨rfl, hb⟩
    have HB3 : Hid (Below w.heap.size w w3) := HBA.out.trans (hb.mono HBA.out.size)
    have HC3 : Hid (w3.heap[w.heap.size]? = some c.obj) := (hb.block _ (block_lt HCA.out)).trans HCA.out
    have HX3 : Hid (w3.heap[w2.heap.size]? = some (⟨c.cells, c.muts, c.regs, p⟩ : Cfg).obj) := (hb.block _ (block_lt HXA.out)).trans HXA.out
    clear hb k0 k1 k2 k3
    by_cases od : (⟨c.cells, c.muts, c.regs, p⟩ : Cfg).ok = true
    · have HERd : Hid ((⟨c.cells, c.muts, c.regs, p⟩ : Cfg).err = 0) := by unfold Cfg.err Hid; rw [if_pos od]
      rw [HERd.out]
      have HG := Lib.hid (HGR.out od)
      obtain ⟨k0, k1, k2, k3⟩ := Cfg.cells_at HC3.out
      obtain ⟨d0, d1, d2, d3⟩ := Cfg.cells_at HX3.out
      have hs3 := block_lt HX3.out
      clear od HGR
      generalize (⟨c.cells, c.muts, c.regs, p⟩ : Cfg).words = d_words at *
      generalize c.words = c_words at *
      generalize (⟨c.cells, c.muts, c.regs, p⟩ : Cfg).cyc = d_cyc at *
      generalize c.cyc = c_cyc at *
      generalize (⟨c.cells, c.muts, c.regs, p⟩ : Cfg).opr = d_opr at *
      generalize c.opr = c_opr at *
      generalize (⟨c.cells, c.muts, c.regs, p⟩ : Cfg).roots = d_roots at *
      generalize c.roots = c_roots at *
      have t1 : decide (c_words < d_words) = true := by simpa using HG.out.1
      have t2 : decide (c_cyc < d_cyc) = true := by simpa using HG.out.2.1
      have t3 : (d_opr == c_opr) = true := by have h := HG.out.2.2.1; rw [beq_iff_eq]; exact h.2 (by simp)
      have t5 : decide (c_roots ≤ d_roots) = true := by simpa using HG.out.2.2.2
      have t6 : decide (d_roots < c_roots) = false := by have := HG.out.2.2.2; simpa using this
      have t4 : (c.muts == c.muts) = true := by simp
      have HALL : Hid (∀ W, Below w3.heap.size w3 W → W.cell? ⟨w.heap.size, 0, none⟩ = some (.int .i64 c.cells) ∧ W.cell? ⟨w.heap.size, 1, none⟩ = some (.int .i64 c.muts) ∧ W.cell? ⟨w.heap.size, 2, none⟩ = some (.int .i64 c.regs) ∧ W.cell? ⟨w.heap.size, 3, none⟩ = some (.int .i64 c.globs) ∧ W.cell? ⟨w2.heap.size, 0, none⟩ = some (.int .i64 c.cells) ∧ W.cell? ⟨w2.heap.size, 1, none⟩ = some (.int .i64 c.muts) ∧ W.cell? ⟨w2.heap.size, 2, none⟩ = some (.int .i64 c.regs) ∧ W.cell? ⟨w2.heap.size, 3, none⟩ = some (.int .i64 p) ∧ Below w3.heap.size w3 W) := fun W hB => by
        obtain ⟨f0, f1, f2, f3⟩ := Cfg.cells_at ((hB.block _ (block_lt HC3.out)).trans HC3.out)
        obtain ⟨g0, g1, g2, g3⟩ := Cfg.cells_at ((hB.block _ (block_lt HX3.out)).trans HX3.out)
        exact ⟨f0, f1, f2, f3, g0, g1, g2, g3, hB⟩
      go_wp2_with fail
      go_region_held3 (fun W => W.cell? ⟨w.heap.size, 0, none⟩ = some (.int .i64 c.cells) ∧ W.cell? ⟨w.heap.size, 1, none⟩ = some (.int .i64 c.muts) ∧ W.cell? ⟨w.heap.size, 2, none⟩ = some (.int .i64 c.regs) ∧ W.cell? ⟨w.heap.size, 3, none⟩ = some (.int .i64 c.globs) ∧ W.cell? ⟨w2.heap.size, 0, none⟩ = some (.int .i64 c.cells) ∧ W.cell? ⟨w2.heap.size, 1, none⟩ = some (.int .i64 c.muts) ∧ W.cell? ⟨w2.heap.size, 2, none⟩ = some (.int .i64 c.regs) ∧ W.cell? ⟨w2.heap.size, 3, none⟩ = some (.int .i64 p) ∧ Below w3.heap.size w3 W)
        (first | exact HALL.out _ (Below.refl _ _) | exact HALL.out _ (Below.refl _ _).drew | (go_split_ands; exact HALL.out _ (Below.trans (by assumption) (hb2.mono (Below.size (by assumption))))) | fail)
        (first | (go_at_call_of 31 (Value.int IntKind.i64 p); refine (HWd.out _).mono ?_; rintro e wq ⟨rfl, hb2⟩) | (go_at_call_of 31 (Value.int IntKind.i64 c.globs); refine (HWc.out _).mono ?_; rintro e wq ⟨rfl, hb2⟩) | (go_at_call_of 34 (Value.int IntKind.i64 p); refine (HCd.out _).mono ?_; rintro e wq ⟨rfl, hb2⟩) | (go_at_call_of 34 (Value.int IntKind.i64 c.globs); refine (HCc.out _).mono ?_; rintro e wq ⟨rfl, hb2⟩) | (go_at_call_of 33 (Value.int IntKind.i64 p); refine (HOd.out _).mono ?_; rintro e wq ⟨rfl, hb2⟩) | (go_at_call_of 33 (Value.int IntKind.i64 c.globs); refine (HOc.out _).mono ?_; rintro e wq ⟨rfl, hb2⟩) | (go_at_call_of 30 (Value.int IntKind.i64 p); refine (HRd.out _).mono ?_; rintro e wq ⟨rfl, hb2⟩) | (go_at_call_of 30 (Value.int IntKind.i64 c.globs); refine (HRc.out _).mono ?_; rintro e wq ⟨rfl, hb2⟩))
      all_goals
       go_wp2_with fail
       go_ret
       go_split_ands
       exact ⟨by first | rfl | (simp; done), HB3.out.trans (Below.mono (by assumption) HB3.out.size)⟩
    · have HERd : Hid ((⟨c.cells, c.muts, c.regs, p⟩ : Cfg).err = 2) := by unfold Cfg.err Hid; rw [if_neg od]
      rw [HERd.out]
      go_wp2_with fail
      go_ret
      exact ⟨rfl, HB3.out⟩
  · have HER : Hid (c.err = 2) := by unfold Cfg.err Hid; rw [if_neg ok]
    rw [HER.out]
    have e1 : c.words = 0 := by unfold Cfg.words; rw [if_neg ok]
    have e2 : c.opr = 0 := by unfold Cfg.opr; rw [if_neg ok]
    have e3 : c.cyc = 0 := by unfold Cfg.cyc; rw [if_neg ok]
    have HW := Lib.hid (fun W => words_any W c)
    have HO := Lib.hid (fun W => oprounds_any W c)
    have HC := Lib.hid (fun W => cycrounds_any W c)
    rw [e1] at HW
    rw [e2] at HO
    rw [e3] at HC
    clear e1 e2 e3
    have HALL : Hid (∀ W, Below w2.heap.size w2 W → W.cell? ⟨w.heap.size, 0, none⟩ = some (.int .i64 c.cells) ∧ W.cell? ⟨w.heap.size, 1, none⟩ = some (.int .i64 c.muts) ∧ W.cell? ⟨w.heap.size, 2, none⟩ = some (.int .i64 c.regs) ∧ W.cell? ⟨w.heap.size, 3, none⟩ = some (.int .i64 c.globs) ∧ Below w2.heap.size w2 W) := fun W hB => by
      obtain ⟨f0, f1, f2, f3⟩ := Cfg.cells_at ((hB.block _ (block_lt HC2.out)).trans HC2.out)
      exact ⟨f0, f1, f2, f3, hB⟩
    go_wp2_with fail
    go_region_held3 (fun W => W.cell? ⟨w.heap.size, 0, none⟩ = some (.int .i64 c.cells) ∧ W.cell? ⟨w.heap.size, 1, none⟩ = some (.int .i64 c.muts) ∧ W.cell? ⟨w.heap.size, 2, none⟩ = some (.int .i64 c.regs) ∧ W.cell? ⟨w.heap.size, 3, none⟩ = some (.int .i64 c.globs) ∧ Below w2.heap.size w2 W)
      (first | exact HALL.out _ (Below.refl _ _) | exact HALL.out _ (Below.refl _ _).drew | (go_split_ands; exact HALL.out _ (Below.trans (by assumption) (hb2.mono (Below.size (by assumption))))) | fail)
      (first | (go_at_call_of 31 (Value.int IntKind.i64 c.cells); refine (HW.out _).mono ?_; rintro e wq ⟨rfl, hb2⟩) | (go_at_call_of 33 (Value.int IntKind.i64 c.cells); refine (HO.out _).mono ?_; rintro e wq ⟨rfl, hb2⟩) | (go_at_call_of 34 (Value.int IntKind.i64 c.cells); refine (HC.out _).mono ?_; rintro e wq ⟨rfl, hb2⟩))
    all_goals
     go_wp2_with fail
     go_ret
     go_split_ands
     exact ⟨by first | rfl | (simp; done), HB2.out.trans (Below.mono (by assumption) HB2.out.size)⟩
end Go.Proofs.YtcheafeaioflmaaDoor
