/- The walk of the law AccessApart. -/
import Derived.Test.YtcheafeaioflmaaDoorAccAll
import Derived.Test.YtcheafeaioflmaaDoorAccOne
import Derived.Test.YtcheafeaioflmaaDoorAccEql
import Derived.Deep.RegionHeld3
namespace Go.Proofs.YtcheafeaioflmaaDoor
open Go Go.RowKit
set_option linter.unusedSimpArgs false
set_option linter.unusedVariables false

theorem three_new (w : World) (o p q : Obj) : (((w.alloc o).alloc p).alloc q).heap[w.heap.size]? = some o ∧ (((w.alloc o).alloc p).alloc q).heap[w.heap.size + 1]? = some p ∧ (((w.alloc o).alloc p).alloc q).heap[w.heap.size + 2]? = some q := by
  obtain ⟨h0, h1⟩ := two_new w o p
  refine ⟨?_, ?_, ?_⟩
  · rw [heap_alloc_old _ _ (by simp; omega)]; exact h0
  · rw [heap_alloc_old _ _ (by simp)]; exact h1
  · have := heap_alloc_new ((w.alloc o).alloc p) q
    simpa using this
set_option maxHeartbeats 8000000 in
set_option maxRecDepth 100000 in
theorem aapart_walk (w : World) (c : Cfg) (x y : Acc) (fx : x.Fits) (fy : y.Fits) (ht : Tens w) :
    Calls Tryd.prog 4 #[c.v, x.v, y.v] w fun e w' => e = .returned (.bool true) ∧ Below w.heap.size w w' := by
  have HT : Hid (Tens w) := ht
  have HFX := Lib.hid fx
  have HFY := Lib.hid fy
  have HB0 : Hid (Below w.heap.size w (((w.alloc c.obj).alloc x.obj).alloc y.obj)) := (((Below.refl _ _).alloc (Nat.le_refl _) _).alloc (by simp) _).alloc (by simp; omega) _
  obtain ⟨g0, g1, g2⟩ := three_new w c.obj x.obj y.obj
  have HC0 := Lib.hid g0
  have HX0 := Lib.hid g1
  have HY0 := Lib.hid g2
  clear fx fy ht g0 g1 g2
  go_enter Tryd.func4, Tryd.ntmps4
  go_wp2_with fail
  refine (acc_awake _ (HT.out.below (Nat.le_refl _) HB0.out)).mono ?_
  rintro e w1 ⟨rfl, hb⟩
  have HB1 : Hid (Below w.heap.size w w1) := HB0.out.trans (hb.mono HB0.out.size)
  have HC1 := Lib.hid ((hb.block w.heap.size (by simp; omega)).trans HC0.out)
  have HX1 := Lib.hid ((hb.block (w.heap.size + 1) (by simp)).trans HX0.out)
  have HY1 : Hid (w1.heap[w.heap.size + 1 + 1]? = some y.obj) := (hb.block (w.heap.size + 1 + 1) (by simp)).trans HY0.out
  clear hb
  have hs2 := block_lt HY1.out
  have hs1 : w.heap.size + 1 < w1.heap.size := by omega
  have hs0 : w.heap.size < w1.heap.size := by omega
  obtain ⟨k0, k1, k2, k3⟩ := Cfg.cells_at HC1.out
  obtain ⟨x0, x1, x2, x3, x4, _⟩ := acc_cells HX1.out
  obtain ⟨y0, y1, y2, y3, y4, _⟩ := acc_cells HY1.out
  by_cases h30 : 30 < c.cells
  · have d30 : decide (30 < c.cells) = true := by simpa using h30
    clear h30
    go_wp2_with fail
    go_ret
    exact ⟨rfl, HB1.out⟩
  have d30 : decide (30 < c.cells) = false := by simpa using h30
  clear h30
  go_wp2_with fail
  obtain ⟨W2, hW2⟩ : ∃ W2, W2 = w1.alloc c.mobj := ⟨_, rfl⟩
  have HBW : Hid (Below w.heap.size w W2) := by rw [hW2]; exact HB1.out.alloc HB1.out.size _
  have HM2 : Hid (W2.heap[w1.heap.size]? = some c.mobj) := by rw [hW2]; exact heap_alloc_new w1 _
  have HX2 : Hid (W2.heap[w.heap.size + 1]? = some x.obj) := by rw [hW2]; exact (Below.heap_alloc _ _ _ (by omega)).trans HX1.out
  have HY2 : Hid (W2.heap[w.heap.size + 1 + 1]? = some y.obj) := by rw [hW2]; exact (Below.heap_alloc _ _ _ (by omega)).trans HY1.out
  have HALL : Hid (∀ W, Below W2.heap.size W2 W → W.cell? ⟨w1.heap.size, 0, none⟩ = some (.int .i64 c.cells) ∧ W.cell? ⟨w1.heap.size, 1, none⟩ = some (.int .i64 c.muts) ∧ W.cell? ⟨w1.heap.size, 2, none⟩ = some (.int .i64 c.regs) ∧ W.cell? ⟨w1.heap.size, 3, none⟩ = some (.int .i64 c.globs) ∧ W.cell? ⟨w.heap.size + 1, 0, none⟩ = some (.int .i64 x.kind) ∧ W.cell? ⟨w.heap.size + 1, 1, none⟩ = some (.int .i64 x.at_) ∧ W.cell? ⟨w.heap.size + 1, 2, none⟩ = some (.int .u64 x.x) ∧ W.cell? ⟨w.heap.size + 1, 3, none⟩ = some (.int .u64 x.y) ∧ W.cell? ⟨w.heap.size + 1, 4, none⟩ = some (.int .u64 x.old) ∧ W.cell? ⟨w.heap.size + 1 + 1, 0, none⟩ = some (.int .i64 y.kind) ∧ W.cell? ⟨w.heap.size + 1 + 1, 1, none⟩ = some (.int .i64 y.at_) ∧ W.cell? ⟨w.heap.size + 1 + 1, 2, none⟩ = some (.int .u64 y.x) ∧ W.cell? ⟨w.heap.size + 1 + 1, 3, none⟩ = some (.int .u64 y.y) ∧ W.cell? ⟨w.heap.size + 1 + 1, 4, none⟩ = some (.int .u64 y.old) ∧ Below W2.heap.size W2 W) := fun W hB => by
    obtain ⟨e0, e1, e2, e3⟩ := Cfg.mcells_at ((hB.block _ (block_lt HM2.out)).trans HM2.out)
    obtain ⟨f0, f1, f2, f3, f4, _⟩ := acc_cells ((hB.block _ (block_lt HX2.out)).trans HX2.out)
    obtain ⟨g0, g1, g2, g3, g4, _⟩ := acc_cells ((hB.block _ (block_lt HY2.out)).trans HY2.out)
    exact ⟨e0, e1, e2, e3, f0, f1, f2, f3, f4, g0, g1, g2, g3, g4, hB⟩
  have HTA : Hid (∀ W, Below W2.heap.size W2 W → Tens W) := fun W hB => HT.out.below (Nat.le_refl _) (HBW.out.trans (hB.mono HBW.out.size))
  have HRX : Hid (∀ W, Tens W → Calls Tryd.prog 18 #[c.v, x.v] W fun e w' => e = .returned (.bool (decide (x.right c))) ∧ Below W.heap.size W w') := fun W hW => aright_any W c x hW
  have HRY : Hid (∀ W, Tens W → Calls Tryd.prog 18 #[c.v, y.v] W fun e w' => e = .returned (.bool (decide (y.right c))) ∧ Below W.heap.size W w') := fun W hW => aright_any W c y hW
  have HTX : Hid (∀ W, Tens W → Calls Tryd.prog 17 #[c.v, x.v] W fun e w' => e = .returned (.string (x.text c)) ∧ Below W.heap.size W w') := fun W hW => atext_any W c x HFX.out hW
  have HTY : Hid (∀ W, Tens W → Calls Tryd.prog 17 #[c.v, y.v] W fun e w' => e = .returned (.string (y.text c)) ∧ Below W.heap.size W w') := fun W hW => atext_any W c y HFY.out hW
  rw [← hW2]
  clear hW2 k0 k1 k2 k3 x0 x1 x2 x3 x4 y0 y1 y2 y3 y4
  by_cases rx : x.right c
  · by_cases ry : y.right c
    · rw [decide_eq_true rx] at HRX
      obtain ⟨sx, hsx⟩ : ∃ s, s = x.text c := ⟨_, rfl⟩
      have HNx := Lib.hid (acc_text_ne rx)
      rw [← hsx] at HTX HNx
      have HEx := Lib.hid hsx
      clear hsx
      have nx1 := empF HNx.out
      have nx2 := strF HNx.out
      rw [decide_eq_true ry] at HRY
      obtain ⟨sy, hsy⟩ : ∃ s, s = y.text c := ⟨_, rfl⟩
      have HNy := Lib.hid (acc_text_ne ry)
      rw [← hsy] at HTY HNy
      have HEy := Lib.hid hsy
      clear hsy
      have ny1 := empF HNy.out
      have ny2 := strF HNy.out
      refine (HRX.out _ (HTA.out _ (Below.refl _ _))).mono ?_
      rintro e w3 ⟨rfl, hb⟩
      have HB3 : Hid (Below W2.heap.size W2 w3) := hb
      clear hb
      obtain ⟨m0, m1, m2, m3, x0, x1, x2, x3, x4, y0, y1, y2, y3, y4, _⟩ := HALL.out _ HB3.out
      go_wp2_with fail
      refine (HRY.out _ (HTA.out _ HB3.out)).mono ?_
      rintro e w4 ⟨rfl, hb⟩
      have HB4 : Hid (Below W2.heap.size W2 w4) := HB3.out.trans (hb.mono HB3.out.size)
      clear hb m0 m1 m2 m3 x0 x1 x2 x3 x4 y0 y1 y2 y3 y4
      obtain ⟨m0, m1, m2, m3, x0, x1, x2, x3, x4, y0, y1, y2, y3, y4, _⟩ := HALL.out _ HB4.out
      go_wp2_with fail
      by_cases hxy : x = y
      · have hse : sx = sy := by rw [HEx.out, HEy.out, hxy]
        have HSE := Lib.hid hse
        have q1 : (sx.toList == sy.toList) = true := strT hse
        have heq : ∀ W : World, (binOp .eql 33 (.agg #[.int .i64 x.kind, .int .i64 x.at_, .int .u64 x.x, .int .u64 x.y, .int .u64 x.old]) (.agg #[.int .i64 y.kind, .int .i64 y.at_, .int .u64 y.x, .int .u64 y.y, .int .u64 y.old])).run Tryd.prog W = .ok (.bool true) W := fun W => by have h := eql_acc W x y; rw [decide_eq_true hxy] at h; exact h
        clear hse hxy
        go_region_held3 (fun W => W.cell? ⟨w1.heap.size, 0, none⟩ = some (.int .i64 c.cells) ∧ W.cell? ⟨w1.heap.size, 1, none⟩ = some (.int .i64 c.muts) ∧ W.cell? ⟨w1.heap.size, 2, none⟩ = some (.int .i64 c.regs) ∧ W.cell? ⟨w1.heap.size, 3, none⟩ = some (.int .i64 c.globs) ∧ W.cell? ⟨w.heap.size + 1, 0, none⟩ = some (.int .i64 x.kind) ∧ W.cell? ⟨w.heap.size + 1, 1, none⟩ = some (.int .i64 x.at_) ∧ W.cell? ⟨w.heap.size + 1, 2, none⟩ = some (.int .u64 x.x) ∧ W.cell? ⟨w.heap.size + 1, 3, none⟩ = some (.int .u64 x.y) ∧ W.cell? ⟨w.heap.size + 1, 4, none⟩ = some (.int .u64 x.old) ∧ W.cell? ⟨w.heap.size + 1 + 1, 0, none⟩ = some (.int .i64 y.kind) ∧ W.cell? ⟨w.heap.size + 1 + 1, 1, none⟩ = some (.int .i64 y.at_) ∧ W.cell? ⟨w.heap.size + 1 + 1, 2, none⟩ = some (.int .u64 y.x) ∧ W.cell? ⟨w.heap.size + 1 + 1, 3, none⟩ = some (.int .u64 y.y) ∧ W.cell? ⟨w.heap.size + 1 + 1, 4, none⟩ = some (.int .u64 y.old) ∧ Below W2.heap.size W2 W)
          (first | exact HALL.out _ HB4.out | exact HALL.out _ HB4.out.drew | (go_split_ands; exact HALL.out _ (Below.trans (by assumption) (hb2.mono (Below.size (by assumption))))) | fail)
          (first | (go_at_call_of 18 (Value.int IntKind.i64 x.kind); refine (HRX.out _ (HTA.out _ (by go_split_ands; assumption))).mono ?_; rintro e wq ⟨rfl, hb2⟩) | (go_at_call_of 18 (Value.int IntKind.i64 y.kind); refine (HRY.out _ (HTA.out _ (by go_split_ands; assumption))).mono ?_; rintro e wq ⟨rfl, hb2⟩) | (go_at_call_of 17 (Value.int IntKind.i64 x.kind); refine (HTX.out _ (HTA.out _ (by go_split_ands; assumption))).mono ?_; rintro e wq ⟨rfl, hb2⟩) | (go_at_call_of 17 (Value.int IntKind.i64 y.kind); refine (HTY.out _ (HTA.out _ (by go_split_ands; assumption))).mono ?_; rintro e wq ⟨rfl, hb2⟩))
        all_goals
          go_wp2_with fail
          go_ret
          go_split_ands
          exact ⟨by first | rfl | (simp [Act.put]; done), HBW.out.trans (Below.mono (by assumption) HBW.out.size)⟩
      · have hse : ¬ sx = sy := fun e => hxy (acc_inj HFX.out HFY.out rx ry (by rw [← HEx.out, ← HEy.out, e]))
        have q1 : (sx.toList == sy.toList) = false := strF hse
        have heq : ∀ W : World, (binOp .eql 33 (.agg #[.int .i64 x.kind, .int .i64 x.at_, .int .u64 x.x, .int .u64 x.y, .int .u64 x.old]) (.agg #[.int .i64 y.kind, .int .i64 y.at_, .int .u64 y.x, .int .u64 y.y, .int .u64 y.old])).run Tryd.prog W = .ok (.bool false) W := fun W => by have h := eql_acc W x y; rw [decide_eq_false hxy] at h; exact h
        clear hse hxy
        go_region_held3 (fun W => W.cell? ⟨w1.heap.size, 0, none⟩ = some (.int .i64 c.cells) ∧ W.cell? ⟨w1.heap.size, 1, none⟩ = some (.int .i64 c.muts) ∧ W.cell? ⟨w1.heap.size, 2, none⟩ = some (.int .i64 c.regs) ∧ W.cell? ⟨w1.heap.size, 3, none⟩ = some (.int .i64 c.globs) ∧ W.cell? ⟨w.heap.size + 1, 0, none⟩ = some (.int .i64 x.kind) ∧ W.cell? ⟨w.heap.size + 1, 1, none⟩ = some (.int .i64 x.at_) ∧ W.cell? ⟨w.heap.size + 1, 2, none⟩ = some (.int .u64 x.x) ∧ W.cell? ⟨w.heap.size + 1, 3, none⟩ = some (.int .u64 x.y) ∧ W.cell? ⟨w.heap.size + 1, 4, none⟩ = some (.int .u64 x.old) ∧ W.cell? ⟨w.heap.size + 1 + 1, 0, none⟩ = some (.int .i64 y.kind) ∧ W.cell? ⟨w.heap.size + 1 + 1, 1, none⟩ = some (.int .i64 y.at_) ∧ W.cell? ⟨w.heap.size + 1 + 1, 2, none⟩ = some (.int .u64 y.x) ∧ W.cell? ⟨w.heap.size + 1 + 1, 3, none⟩ = some (.int .u64 y.y) ∧ W.cell? ⟨w.heap.size + 1 + 1, 4, none⟩ = some (.int .u64 y.old) ∧ Below W2.heap.size W2 W)
          (first | exact HALL.out _ HB4.out | exact HALL.out _ HB4.out.drew | (go_split_ands; exact HALL.out _ (Below.trans (by assumption) (hb2.mono (Below.size (by assumption))))) | fail)
          (first | (go_at_call_of 18 (Value.int IntKind.i64 x.kind); refine (HRX.out _ (HTA.out _ (by go_split_ands; assumption))).mono ?_; rintro e wq ⟨rfl, hb2⟩) | (go_at_call_of 18 (Value.int IntKind.i64 y.kind); refine (HRY.out _ (HTA.out _ (by go_split_ands; assumption))).mono ?_; rintro e wq ⟨rfl, hb2⟩) | (go_at_call_of 17 (Value.int IntKind.i64 x.kind); refine (HTX.out _ (HTA.out _ (by go_split_ands; assumption))).mono ?_; rintro e wq ⟨rfl, hb2⟩) | (go_at_call_of 17 (Value.int IntKind.i64 y.kind); refine (HTY.out _ (HTA.out _ (by go_split_ands; assumption))).mono ?_; rintro e wq ⟨rfl, hb2⟩))
        all_goals
          go_wp2_with fail
          go_ret
          go_split_ands
          exact ⟨by first | rfl | (simp [Act.put]; done), HBW.out.trans (Below.mono (by assumption) HBW.out.size)⟩
    · rw [decide_eq_true rx] at HRX
      obtain ⟨sx, hsx⟩ : ∃ s, s = x.text c := ⟨_, rfl⟩
      have HNx := Lib.hid (acc_text_ne rx)
      rw [← hsx] at HTX HNx
      have HEx := Lib.hid hsx
      clear hsx
      have nx1 := empF HNx.out
      have nx2 := strF HNx.out
      rw [decide_eq_false ry] at HRY
      rw [acc_text_not ry] at HTY
      have ne1 : (⟨#[]⟩ : ByteArray).toList.isEmpty = true := empT rfl
      have ne2 : ((⟨#[]⟩ : ByteArray).toList == (⟨#[]⟩ : ByteArray).toList) = true := strT rfl
      refine (HRX.out _ (HTA.out _ (Below.refl _ _))).mono ?_
      rintro e w3 ⟨rfl, hb⟩
      have HB3 : Hid (Below W2.heap.size W2 w3) := hb
      clear hb
      obtain ⟨m0, m1, m2, m3, x0, x1, x2, x3, x4, y0, y1, y2, y3, y4, _⟩ := HALL.out _ HB3.out
      go_wp2_with fail
      refine (HRY.out _ (HTA.out _ HB3.out)).mono ?_
      rintro e w4 ⟨rfl, hb⟩
      have HB4 : Hid (Below W2.heap.size W2 w4) := HB3.out.trans (hb.mono HB3.out.size)
      clear hb m0 m1 m2 m3 x0 x1 x2 x3 x4 y0 y1 y2 y3 y4
      obtain ⟨m0, m1, m2, m3, x0, x1, x2, x3, x4, y0, y1, y2, y3, y4, _⟩ := HALL.out _ HB4.out
      go_wp2_with fail
      go_region_held3 (fun W => W.cell? ⟨w1.heap.size, 0, none⟩ = some (.int .i64 c.cells) ∧ W.cell? ⟨w1.heap.size, 1, none⟩ = some (.int .i64 c.muts) ∧ W.cell? ⟨w1.heap.size, 2, none⟩ = some (.int .i64 c.regs) ∧ W.cell? ⟨w1.heap.size, 3, none⟩ = some (.int .i64 c.globs) ∧ W.cell? ⟨w.heap.size + 1, 0, none⟩ = some (.int .i64 x.kind) ∧ W.cell? ⟨w.heap.size + 1, 1, none⟩ = some (.int .i64 x.at_) ∧ W.cell? ⟨w.heap.size + 1, 2, none⟩ = some (.int .u64 x.x) ∧ W.cell? ⟨w.heap.size + 1, 3, none⟩ = some (.int .u64 x.y) ∧ W.cell? ⟨w.heap.size + 1, 4, none⟩ = some (.int .u64 x.old) ∧ W.cell? ⟨w.heap.size + 1 + 1, 0, none⟩ = some (.int .i64 y.kind) ∧ W.cell? ⟨w.heap.size + 1 + 1, 1, none⟩ = some (.int .i64 y.at_) ∧ W.cell? ⟨w.heap.size + 1 + 1, 2, none⟩ = some (.int .u64 y.x) ∧ W.cell? ⟨w.heap.size + 1 + 1, 3, none⟩ = some (.int .u64 y.y) ∧ W.cell? ⟨w.heap.size + 1 + 1, 4, none⟩ = some (.int .u64 y.old) ∧ Below W2.heap.size W2 W)
        (first | exact HALL.out _ HB4.out | exact HALL.out _ HB4.out.drew | (go_split_ands; exact HALL.out _ (Below.trans (by assumption) (hb2.mono (Below.size (by assumption))))) | fail)
        (first | (go_at_call_of 18 (Value.int IntKind.i64 x.kind); refine (HRX.out _ (HTA.out _ (by go_split_ands; assumption))).mono ?_; rintro e wq ⟨rfl, hb2⟩) | (go_at_call_of 18 (Value.int IntKind.i64 y.kind); refine (HRY.out _ (HTA.out _ (by go_split_ands; assumption))).mono ?_; rintro e wq ⟨rfl, hb2⟩) | (go_at_call_of 17 (Value.int IntKind.i64 x.kind); refine (HTX.out _ (HTA.out _ (by go_split_ands; assumption))).mono ?_; rintro e wq ⟨rfl, hb2⟩) | (go_at_call_of 17 (Value.int IntKind.i64 y.kind); refine (HTY.out _ (HTA.out _ (by go_split_ands; assumption))).mono ?_; rintro e wq ⟨rfl, hb2⟩))
      all_goals
        go_wp2_with fail
        go_ret
        go_split_ands
        exact ⟨by first | rfl | (simp [Act.put]; done), HBW.out.trans (Below.mono (by assumption) HBW.out.size)⟩
  · by_cases ry : y.right c
    · rw [decide_eq_false rx] at HRX
      rw [acc_text_not rx] at HTX
      rw [decide_eq_true ry] at HRY
      obtain ⟨sy, hsy⟩ : ∃ s, s = y.text c := ⟨_, rfl⟩
      have HNy := Lib.hid (acc_text_ne ry)
      rw [← hsy] at HTY HNy
      have HEy := Lib.hid hsy
      clear hsy
      have ny1 := empF HNy.out
      have ny2 := strF HNy.out
      have ne1 : (⟨#[]⟩ : ByteArray).toList.isEmpty = true := empT rfl
      have ne2 : ((⟨#[]⟩ : ByteArray).toList == (⟨#[]⟩ : ByteArray).toList) = true := strT rfl
      refine (HRX.out _ (HTA.out _ (Below.refl _ _))).mono ?_
      rintro e w3 ⟨rfl, hb⟩
      have HB3 : Hid (Below W2.heap.size W2 w3) := hb
      clear hb
      obtain ⟨m0, m1, m2, m3, x0, x1, x2, x3, x4, y0, y1, y2, y3, y4, _⟩ := HALL.out _ HB3.out
      go_wp2_with fail
      go_region_held3 (fun W => W.cell? ⟨w1.heap.size, 0, none⟩ = some (.int .i64 c.cells) ∧ W.cell? ⟨w1.heap.size, 1, none⟩ = some (.int .i64 c.muts) ∧ W.cell? ⟨w1.heap.size, 2, none⟩ = some (.int .i64 c.regs) ∧ W.cell? ⟨w1.heap.size, 3, none⟩ = some (.int .i64 c.globs) ∧ W.cell? ⟨w.heap.size + 1, 0, none⟩ = some (.int .i64 x.kind) ∧ W.cell? ⟨w.heap.size + 1, 1, none⟩ = some (.int .i64 x.at_) ∧ W.cell? ⟨w.heap.size + 1, 2, none⟩ = some (.int .u64 x.x) ∧ W.cell? ⟨w.heap.size + 1, 3, none⟩ = some (.int .u64 x.y) ∧ W.cell? ⟨w.heap.size + 1, 4, none⟩ = some (.int .u64 x.old) ∧ W.cell? ⟨w.heap.size + 1 + 1, 0, none⟩ = some (.int .i64 y.kind) ∧ W.cell? ⟨w.heap.size + 1 + 1, 1, none⟩ = some (.int .i64 y.at_) ∧ W.cell? ⟨w.heap.size + 1 + 1, 2, none⟩ = some (.int .u64 y.x) ∧ W.cell? ⟨w.heap.size + 1 + 1, 3, none⟩ = some (.int .u64 y.y) ∧ W.cell? ⟨w.heap.size + 1 + 1, 4, none⟩ = some (.int .u64 y.old) ∧ Below W2.heap.size W2 W)
        (first | exact HALL.out _ HB3.out | exact HALL.out _ HB3.out.drew | (go_split_ands; exact HALL.out _ (Below.trans (by assumption) (hb2.mono (Below.size (by assumption))))) | fail)
        (first | (go_at_call_of 18 (Value.int IntKind.i64 x.kind); refine (HRX.out _ (HTA.out _ (by go_split_ands; assumption))).mono ?_; rintro e wq ⟨rfl, hb2⟩) | (go_at_call_of 18 (Value.int IntKind.i64 y.kind); refine (HRY.out _ (HTA.out _ (by go_split_ands; assumption))).mono ?_; rintro e wq ⟨rfl, hb2⟩) | (go_at_call_of 17 (Value.int IntKind.i64 x.kind); refine (HTX.out _ (HTA.out _ (by go_split_ands; assumption))).mono ?_; rintro e wq ⟨rfl, hb2⟩) | (go_at_call_of 17 (Value.int IntKind.i64 y.kind); refine (HTY.out _ (HTA.out _ (by go_split_ands; assumption))).mono ?_; rintro e wq ⟨rfl, hb2⟩))
      all_goals
        go_wp2_with fail
        go_ret
        go_split_ands
        exact ⟨by first | rfl | (simp [Act.put]; done), HBW.out.trans (Below.mono (by assumption) HBW.out.size)⟩
    · rw [decide_eq_false rx] at HRX
      rw [acc_text_not rx] at HTX
      rw [decide_eq_false ry] at HRY
      rw [acc_text_not ry] at HTY
      have ne1 : (⟨#[]⟩ : ByteArray).toList.isEmpty = true := empT rfl
      have ne2 : ((⟨#[]⟩ : ByteArray).toList == (⟨#[]⟩ : ByteArray).toList) = true := strT rfl
      refine (HRX.out _ (HTA.out _ (Below.refl _ _))).mono ?_
      rintro e w3 ⟨rfl, hb⟩
      have HB3 : Hid (Below W2.heap.size W2 w3) := hb
      clear hb
      obtain ⟨m0, m1, m2, m3, x0, x1, x2, x3, x4, y0, y1, y2, y3, y4, _⟩ := HALL.out _ HB3.out
      go_wp2_with fail
      go_region_held3 (fun W => W.cell? ⟨w1.heap.size, 0, none⟩ = some (.int .i64 c.cells) ∧ W.cell? ⟨w1.heap.size, 1, none⟩ = some (.int .i64 c.muts) ∧ W.cell? ⟨w1.heap.size, 2, none⟩ = some (.int .i64 c.regs) ∧ W.cell? ⟨w1.heap.size, 3, none⟩ = some (.int .i64 c.globs) ∧ W.cell? ⟨w.heap.size + 1, 0, none⟩ = some (.int .i64 x.kind) ∧ W.cell? ⟨w.heap.size + 1, 1, none⟩ = some (.int .i64 x.at_) ∧ W.cell? ⟨w.heap.size + 1, 2, none⟩ = some (.int .u64 x.x) ∧ W.cell? ⟨w.heap.size + 1, 3, none⟩ = some (.int .u64 x.y) ∧ W.cell? ⟨w.heap.size + 1, 4, none⟩ = some (.int .u64 x.old) ∧ W.cell? ⟨w.heap.size + 1 + 1, 0, none⟩ = some (.int .i64 y.kind) ∧ W.cell? ⟨w.heap.size + 1 + 1, 1, none⟩ = some (.int .i64 y.at_) ∧ W.cell? ⟨w.heap.size + 1 + 1, 2, none⟩ = some (.int .u64 y.x) ∧ W.cell? ⟨w.heap.size + 1 + 1, 3, none⟩ = some (.int .u64 y.y) ∧ W.cell? ⟨w.heap.size + 1 + 1, 4, none⟩ = some (.int .u64 y.old) ∧ Below W2.heap.size W2 W)
        (first | exact HALL.out _ HB3.out | exact HALL.out _ HB3.out.drew | (go_split_ands; exact HALL.out _ (Below.trans (by assumption) (hb2.mono (Below.size (by assumption))))) | fail)
        (first | (go_at_call_of 18 (Value.int IntKind.i64 x.kind); refine (HRX.out _ (HTA.out _ (by go_split_ands; assumption))).mono ?_; rintro e wq ⟨rfl, hb2⟩) | (go_at_call_of 18 (Value.int IntKind.i64 y.kind); refine (HRY.out _ (HTA.out _ (by go_split_ands; assumption))).mono ?_; rintro e wq ⟨rfl, hb2⟩) | (go_at_call_of 17 (Value.int IntKind.i64 x.kind); refine (HTX.out _ (HTA.out _ (by go_split_ands; assumption))).mono ?_; rintro e wq ⟨rfl, hb2⟩) | (go_at_call_of 17 (Value.int IntKind.i64 y.kind); refine (HTY.out _ (HTA.out _ (by go_split_ands; assumption))).mono ?_; rintro e wq ⟨rfl, hb2⟩))
      all_goals
        go_wp2_with fail
        go_ret
        go_split_ands
        exact ⟨by first | rfl | (simp [Act.put]; done), HBW.out.trans (Below.mono (by assumption) HBW.out.size)⟩
end Go.Proofs.YtcheafeaioflmaaDoor
