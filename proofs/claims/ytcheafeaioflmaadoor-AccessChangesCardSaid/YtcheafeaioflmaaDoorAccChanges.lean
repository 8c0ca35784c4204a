/- The walk of the law AccessChanges. -/
import Derived.Test.YtcheafeaioflmaaDoorAccAwake
import Derived.Deep.RegionHeld3
namespace Go.Proofs.YtcheafeaioflmaaDoor
open Go Go.RowKit
set_option linter.unusedSimpArgs false
set_option linter.unusedVariables false

theorem own_one {W : World} {B g : Nat} {o : Int} (h : W.heap[g]? = some (.cells #[.int .u64 o] 31)) (hB : B ≤ g) : Own .u64 31 W B (.slice (some ⟨g, 0, none⟩) [o].length 1) [o] :=
  ⟨by simp, .inr ⟨g, 1, #[.int .u64 o], rfl, hB, h, by simp, by unfold maxLen; omega, by simp, by simp⟩⟩
set_option maxHeartbeats 8000000 in
set_option maxRecDepth 100000 in
theorem achanges_walk (w : World) (a : Acc) (hf : a.Fits) (ht : Tens w) :
    Calls Tryd.prog 5 #[a.v] w fun e w' => e = .returned (.bool true) ∧ Below w.heap.size w w' := by
  have HT : Hid (Tens w) := ht
  have HF := Lib.hid hf
  have HB0 : Hid (Below w.heap.size w (w.alloc a.obj)) := (Below.refl _ _).alloc (Nat.le_refl _) _
  have HX0 := Lib.hid (heap_alloc_new w a.obj)
  obtain ⟨x0, x1, x2, x3, x4, _⟩ := acc_cells HX0.out
  clear hf ht
  go_enter Tryd.func5, Tryd.ntmps5
  go_wp2_with fail
  refine (acc_awake _ (HT.out.below (Nat.le_refl _) HB0.out)).mono ?_
  rintro e w1 ⟨rfl, hb⟩
  have HB1 : Hid (Below w.heap.size w w1) := HB0.out.trans (hb.mono HB0.out.size)
  have hx1 : w1.heap[w.heap.size]? = some a.obj := (hb.block _ (by simp)).trans HX0.out
  clear hb x0 x1 x2 x3 x4
  have hs1 := block_lt hx1
  obtain ⟨x0, x1, x2, x3, x4, _⟩ := acc_cells hx1
  have fz := frozen_of_block hx1 1
  have HX1 := Lib.hid hx1
  clear hx1
  go_wp2_with fail
  have hz : ((w1.setCell ⟨w.heap.size, 1, none⟩ (.int .i64 0)).alloc (.cells #[.int .u64 a.old] 31)).heap[w.heap.size]? = some (Acc.obj ⟨a.kind, 0, a.x, a.y, a.old⟩) := by
    rw [heap_alloc_old _ _ (by simp; omega)]
    exact heap_setCell_same w1 w.heap.size 1 _ _ _ HX1.out
  have hl : ((w1.setCell ⟨w.heap.size, 1, none⟩ (.int .i64 0)).alloc (.cells #[.int .u64 a.old] 31)).heap[w1.heap.size]? = some (.cells #[.int .u64 a.old] 31) := by
    have := heap_alloc_new (w1.setCell ⟨w.heap.size, 1, none⟩ (.int .i64 0)) (.cells #[.int .u64 a.old] 31)
    simpa using this
  have HBW : Hid (Below w.heap.size w ((w1.setCell ⟨w.heap.size, 1, none⟩ (.int .i64 0)).alloc (.cells #[.int .u64 a.old] 31))) := (HB1.out.setCell (Nat.le_refl _) _).alloc (by simp; omega) _
  have HZ := Lib.hid hz
  clear hz
  refine (refdo_any _ w1.heap.size (some ⟨w1.heap.size, 0, none⟩) 1 [a.old] ⟨a.kind, 0, a.x, a.y, a.old⟩ (own_one hl (Nat.le_refl _)) (by simp)).mono ?_
  rintro e w2 ⟨rfl, hown, hk⟩
  have hz2 : w2.heap[w.heap.size]? = some (Acc.obj ⟨a.kind, 0, a.x, a.y, a.old⟩) := hk.at_ HZ.out (by simp [Value.ownBlock]; omega)
  have HB2 : Hid (Below w.heap.size w w2) := HBW.out.trans (hk.below (by simp; omega) (fun k h => by simp [Value.ownBlock] at h; omega))
  rw [left_one _ _ rfl] at hown
  have hl2 : w2.cell? ⟨w1.heap.size, 0, none⟩ = some (.int .u64 (Acc.aft ⟨a.kind, 0, a.x, a.y, a.old⟩ a.old)) := by
    have := World.ownsRow.cellAt hown 0 (by simp)
    simpa using this
  have hs2 : w1.heap.size < w2.heap.size := by
    have := hk.size
    simp at this
    omega
  have HLAW := Lib.hid (chg_law ⟨a.kind, 0, a.x, a.y, a.old⟩ ⟨HF.out.k, ⟨by simp, by simp⟩, HF.out.x, HF.out.y, HF.out.o⟩)
  have HFT : Hid (Acc.fits ⟨a.kind, 0, a.x, a.y, a.old⟩ [a.old] = decide (1 ≤ a.kind ∧ a.kind ≤ 4)) := by unfold Hid Acc.fits; simp
  have HZ2 := Lib.hid hz2
  clear hown hk hl x0 x1 x2 x3 x4 fz
  obtain ⟨x0, x1, x2, x3, x4, _⟩ := acc_cells hz2
  clear hz2
  have HC := Lib.hid (fun W => achg_any W ⟨a.kind, 0, a.x, a.y, a.old⟩)
  obtain ⟨z, hz⟩ : ∃ z, z = (Acc.res ⟨a.kind, 0, a.x, a.y, a.old⟩ [a.old]) := ⟨_, rfl⟩
  rw [← hz]
  clear hz
  rw [HFT.out]
  obtain ⟨r, hr⟩ : ∃ r, r = Acc.aft ⟨a.kind, 0, a.x, a.y, a.old⟩ a.old := ⟨_, rfl⟩
  obtain ⟨g, hg⟩ : ∃ g, g = Acc.chg ⟨a.kind, 0, a.x, a.y, a.old⟩ := ⟨_, rfl⟩
  simp only [← hr, ← hg] at hl2 HC HLAW
  clear hr hg
  have hs0 : w.heap.size < w2.heap.size := by omega
  by_cases hk : 1 ≤ a.kind ∧ a.kind ≤ 4
  · have HL : Hid (g = (r != a.old)) := by unfold Hid; rw [HLAW.out, decide_eq_true hk, Bool.true_and]; rfl
    rw [decide_eq_true hk]
    clear hk
    go_wp2_with fail
    go_region_with (go_at_call 22; refine (HC.out _).mono ?_; rintro e w4 ⟨rfl, hb⟩; have HB4 := Lib.hid (((HB2.out.alloc (by omega) _).drew).trans (hb.mono (by simp; omega))); have y4 : w4.cell? ⟨w.heap.size, 4, none⟩ = some (.int .u64 a.old) := (hb.cell (by simp; omega)).trans ((World.cell?_alloc_lt _ _ _ hs0).trans x4); have yl : w4.cell? ⟨w1.heap.size, 0, none⟩ = some (.int .u64 r) := (hb.cell (by simp; omega)).trans ((World.cell?_alloc_lt _ _ _ hs2).trans hl2); clear hb)
    all_goals
      go_wp2_with fail
      go_ret
      exact ⟨by rw [HL.out]; simp [Act.put], HB4.out⟩
  · have HL : Hid (g = false) := by unfold Hid; rw [HLAW.out, decide_eq_false hk, Bool.false_and]
    rw [decide_eq_false hk]
    clear hk
    go_wp2_with fail
    refine wp_region_held_drew (S := fun w' => w'.cell? ⟨w.heap.size, 0, none⟩ = some (.int .i64 a.kind) ∧ w'.cell? ⟨w.heap.size, 1, none⟩ = some (.int .i64 0) ∧ w'.cell? ⟨w.heap.size, 2, none⟩ = some (.int .u64 a.x) ∧ w'.cell? ⟨w.heap.size, 3, none⟩ = some (.int .u64 a.y) ∧ w'.cell? ⟨w.heap.size, 4, none⟩ = some (.int .u64 a.old) ∧ w2.heap.size < w'.heap.size ∧ Below w.heap.size w w') (by kernel_rfl) ?_ (fun hHeld => ?_)
    · exact ⟨(World.cell?_alloc_lt _ _ _ hs0).trans x0, (World.cell?_alloc_lt _ _ _ hs0).trans x1, (World.cell?_alloc_lt _ _ _ hs0).trans x2, (World.cell?_alloc_lt _ _ _ hs0).trans x3, (World.cell?_alloc_lt _ _ _ hs0).trans x4, by first | (simp; done) | exact (by simp : w2.heap.size < (w2.alloc _).heap.size), (HB2.out.alloc (by omega) _).drew⟩
    refine wpAnyH_take (i := 0) (oi := ?oi101) (v := ?v101) ?hi101 (by kernel_rfl) (by kernel_rfl) (by kernel_rfl) ?hq101 (Or.inl ⟨?hw101, ?hy101⟩) (by assumption) ?rest101
    case hi101 => simp only [List.getElem?_toArray, List.getElem?_cons_succ, List.getElem?_cons_zero]; rfl
    case hq101 => exact fun _ _ _ h => h
    case hw101 => kernel_rfl
    case hy101 => (intro w hSw; (try dsimp only at hSw); go_simp; try with_reducible rfl)
    try simp only [Act.put, List.setIfInBounds_toArray, List.set_cons_zero, List.set_cons_succ]
    refine wpAnyH_take (i := 2) (oi := ?oi102) (v := ?v102) ?hi102 (by kernel_rfl) (by kernel_rfl) (by kernel_rfl) ?hq102 (Or.inl ⟨?hw102, ?hy102⟩) (by assumption) ?rest102
    case hi102 => simp only [List.getElem?_toArray, List.getElem?_cons_succ, List.getElem?_cons_zero]; rfl
    case hq102 => exact fun _ _ _ h => h
    case hw102 => kernel_rfl
    case hy102 => (intro w hSw; (try dsimp only at hSw); go_simp; try with_reducible rfl)
    try simp only [Act.put, List.setIfInBounds_toArray, List.set_cons_zero, List.set_cons_succ]
    refine wpAnyH_ready (rs := [1]) (by kernel_rfl) (by simp) ?_
    refine AllReadyH.cons (o := ?o103) ?ho103 (fun K hK => ?st103) AllReadyH.nil
    case ho103 => simp only [List.getElem?_toArray, List.getElem?_cons_succ, List.getElem?_cons_zero]; rfl
    go_simp
    go_at_call 22
    refine (HC.out _).mono ?_
    rintro e w4 ⟨rfl, hb⟩
    have hsw : w.heap.size < (w2.alloc (.cells #[.int .i64 z.kind, .int .i64 z.at_, .int .u64 z.x, .int .u64 z.y, .int .u64 z.old] 33)).heap.size := by simp; omega
    have hsz := hb.size
    have HB4 := Lib.hid (hHeld.2.2.2.2.2.2.trans (hb.mono (Nat.le_of_lt hsw)))
    have y0 := (hb.cell (p := ⟨w.heap.size, 0, none⟩) hsw).trans hHeld.1
    have y1 := (hb.cell (p := ⟨w.heap.size, 1, none⟩) hsw).trans hHeld.2.1
    have y2 := (hb.cell (p := ⟨w.heap.size, 2, none⟩) hsw).trans hHeld.2.2.1
    have y3 := (hb.cell (p := ⟨w.heap.size, 3, none⟩) hsw).trans hHeld.2.2.2.1
    have y4 := (hb.cell (p := ⟨w.heap.size, 4, none⟩) hsw).trans hHeld.2.2.2.2.1
    have y5 : w2.heap.size < w4.heap.size := Nat.lt_of_lt_of_le hHeld.2.2.2.2.2.1 hsz
    clear hb
    try go_simp
    refine hK.out _ _ ?_ (fun hHeld => ?_)
    · exact ⟨y0, y1, y2, y3, y4, y5, HB4.out⟩
    clear hK K
    try simp only [Act.put, List.setIfInBounds_toArray, List.set_cons_zero, List.set_cons_succ]
    refine wpAnyH_take (i := 3) (oi := ?oi104) (v := ?v104) ?hi104 (by kernel_rfl) (by kernel_rfl) (by kernel_rfl) ?hq104 (Or.inl ⟨?hw104, ?hy104⟩) (by assumption) ?rest104
    case hi104 => simp only [List.getElem?_toArray, List.getElem?_cons_succ, List.getElem?_cons_zero]; rfl
    case hq104 => exact fun _ _ _ h => h
    case hw104 => kernel_rfl
    case hy104 => (intro w hSw; (try dsimp only at hSw); go_simp; try with_reducible rfl)
    try simp only [Act.put, List.setIfInBounds_toArray, List.set_cons_zero, List.set_cons_succ]
    refine wpAnyH_take (i := 4) (oi := ?oi105) (v := undef) ?hi105 (by kernel_rfl) (by kernel_rfl) (by kernel_rfl) ?hq105 (Or.inr ⟨?hw105, rfl⟩) (by assumption) ?rest105
    case hi105 => simp only [List.getElem?_toArray, List.getElem?_cons_succ, List.getElem?_cons_zero]; rfl
    case hq105 => exact fun _ _ _ h => h
    case hw105 => kernel_rfl
    try simp only [Act.put, List.setIfInBounds_toArray, List.set_cons_zero, List.set_cons_succ]
    refine wpAnyH_take (i := 5) (oi := ?oi106) (v := undef) ?hi106 (by kernel_rfl) (by kernel_rfl) (by kernel_rfl) ?hq106 (Or.inr ⟨?hw106, rfl⟩) (by assumption) ?rest106
    case hi106 => simp only [List.getElem?_toArray, List.getElem?_cons_succ, List.getElem?_cons_zero]; rfl
    case hq106 => exact fun _ _ _ h => h
    case hw106 => kernel_rfl
    try simp only [Act.put, List.setIfInBounds_toArray, List.set_cons_zero, List.set_cons_succ]
    refine wpAnyH_take (i := 6) (oi := ?oi107) (v := undef) ?hi107 (by kernel_rfl) (by kernel_rfl) (by kernel_rfl) ?hq107 (Or.inr ⟨?hw107, rfl⟩) (by assumption) ?rest107
    case hi107 => simp only [List.getElem?_toArray, List.getElem?_cons_succ, List.getElem?_cons_zero]; rfl
    case hq107 => exact fun _ _ _ h => h
    case hw107 => kernel_rfl
    try simp only [Act.put, List.setIfInBounds_toArray, List.set_cons_zero, List.set_cons_succ]
    refine wpAnyH_take (i := 7) (oi := ?oi108) (v := undef) ?hi108 (by kernel_rfl) (by kernel_rfl) (by kernel_rfl) ?hq108 (Or.inr ⟨?hw108, rfl⟩) (by assumption) ?rest108
    case hi108 => simp only [List.getElem?_toArray, List.getElem?_cons_succ, List.getElem?_cons_zero]; rfl
    case hq108 => exact fun _ _ _ h => h
    case hw108 => kernel_rfl
    try simp only [Act.put, List.setIfInBounds_toArray, List.set_cons_zero, List.set_cons_succ]
    refine wpAnyH_take (i := 8) (oi := ?oi109) (v := undef) ?hi109 (by kernel_rfl) (by kernel_rfl) (by kernel_rfl) ?hq109 (Or.inr ⟨?hw109, rfl⟩) (by assumption) ?rest109
    case hi109 => simp only [List.getElem?_toArray, List.getElem?_cons_succ, List.getElem?_cons_zero]; rfl
    case hq109 => exact fun _ _ _ h => h
    case hw109 => kernel_rfl
    try simp only [Act.put, List.setIfInBounds_toArray, List.set_cons_zero, List.set_cons_succ]
    refine wpAnyH_take (i := 9) (oi := ?oi110) (v := undef) ?hi110 (by kernel_rfl) (by kernel_rfl) (by kernel_rfl) ?hq110 (Or.inr ⟨?hw110, rfl⟩) (by assumption) ?rest110
    case hi110 => simp only [List.getElem?_toArray, List.getElem?_cons_succ, List.getElem?_cons_zero]; rfl
    case hq110 => exact fun _ _ _ h => h
    case hw110 => kernel_rfl
    try simp only [Act.put, List.setIfInBounds_toArray, List.set_cons_zero, List.set_cons_succ]
    refine wpAnyH_take (i := 10) (oi := ?oi111) (v := ?v111) ?hi111 (by kernel_rfl) (by kernel_rfl) (by kernel_rfl) ?hq111 (Or.inl ⟨?hw111, ?hy111⟩) (by assumption) ?rest111
    case hi111 => simp only [List.getElem?_toArray, List.getElem?_cons_succ, List.getElem?_cons_zero]; rfl
    case hq111 => exact fun _ _ _ h => h
    case hw111 => kernel_rfl
    case hy111 => (intro w hSw; (try dsimp only at hSw); go_simp; try with_reducible rfl)
    try simp only [Act.put, List.setIfInBounds_toArray, List.set_cons_zero, List.set_cons_succ]
    refine wpAnyH_take (i := 11) (oi := ?oi112) (v := ?v112) ?hi112 (by kernel_rfl) (by kernel_rfl) (by kernel_rfl) ?hq112 (Or.inl ⟨?hw112, ?hy112⟩) (by assumption) ?rest112
    case hi112 => simp only [List.getElem?_toArray, List.getElem?_cons_succ, List.getElem?_cons_zero]; rfl
    case hq112 => exact fun _ _ _ h => h
    case hw112 => kernel_rfl
    case hy112 => (intro w hSw; (try dsimp only at hSw); go_simp; try with_reducible rfl)
    try simp only [Act.put, List.setIfInBounds_toArray, List.set_cons_zero, List.set_cons_succ]
    refine wpAnyH_take (i := 12) (oi := ?oi113) (v := ?v113) ?hi113 (by kernel_rfl) (by kernel_rfl) (by kernel_rfl) ?hq113 (Or.inl ⟨?hw113, ?hy113⟩) (by assumption) ?rest113
    case hi113 => simp only [List.getElem?_toArray, List.getElem?_cons_succ, List.getElem?_cons_zero]; rfl
    case hq113 => exact fun _ _ _ h => h
    case hw113 => kernel_rfl
    case hy113 => (intro w hSw; (try dsimp only at hSw); go_simp; try with_reducible rfl)
    try simp only [Act.put, List.setIfInBounds_toArray, List.set_cons_zero, List.set_cons_succ]
    refine wpAnyH_done (by kernel_rfl) ?_ _
    go_wp2_with fail
    go_ret
    exact ⟨by rw [HL.out]; simp [Act.put], HB4.out⟩
end Go.Proofs.YtcheafeaioflmaaDoor
