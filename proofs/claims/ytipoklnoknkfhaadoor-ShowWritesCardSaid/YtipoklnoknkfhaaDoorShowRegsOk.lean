/- show.Regs, where there are registers. -/
import Derived.Test.YtipoklnoknkfhaaDoorShowRegs
namespace Go.Proofs.YtipoklnoknkfhaaDoor
open Go Go.RowKit
set_option linter.unusedSimpArgs false
set_option linter.unusedVariables false

set_option maxHeartbeats 8000000 in
set_option maxRecDepth 100000 in
theorem sregs_ok (w : World) (B : Nat) (c : Cfg) (A : Option Addr) (xs : List Int) (cp : Nat) (M : Option Addr) (nm cm : Nat) (t0 t1 t2 t3 t4 t5 t6 t7 t8 t9 : Value) (m most : Int) (ok : c.ok = true) (hn : (xs.length : Int) = c.words) (hB : B ≤ w.heap.size) (hxs : Words w B A xs) (hw : ∀ y ∈ xs, wok y) (ht : Tens w) (hnm : (nm : Int) = c.muts) (hm0 : 0 ≤ m) (hm1 : m < c.muts) :
    Calls Tryd.prog 11 #[.agg (stCells c A xs.length cp M nm cm t0 t1 t2 t3 t4 t5 t6 t7 t8 t9), .int .i64 m, .int .i64 most] w fun e w' => TextsAt (regTxts c xs m most c.regs.toNat) e w' ∧ Below w.heap.size w w' := by
  have HT := Lib.hid ht
  have HXS := Lib.hid hxs
  have HWX := Lib.hid hw
  have HOK := Lib.hid ok
  have HN := Lib.hid hn
  have he : Hid (c.err = 0) := by unfold Cfg.err Hid; rw [if_pos ok]
  have hm : Hid (c.map = c) := by unfold Cfg.map Hid; rw [if_pos ok]
  have tn : ((xs.length : Int) != c.words) = false := by rw [hn]; simp
  have tm : ((nm : Int) != c.muts) = false := by rw [hnm]; simp
  have tz : decide (m < 0) = false := by simpa using hm0
  have tg : decide (c.muts ≤ m) = false := by simpa using hm1
  clear ht hxs hw ok hn hnm
  have HB0 : Hid (Below w.heap.size w (w.alloc (.cells (stCells c A xs.length cp M nm cm t0 t1 t2 t3 t4 t5 t6 t7 t8 t9) 34))) := (Below.refl _ w).alloc (Nat.le_refl _) _
  have HBL : Hid ((w.alloc (.cells (stCells c A xs.length cp M nm cm t0 t1 t2 t3 t4 t5 t6 t7 t8 t9) 34)).heap[w.heap.size]? = some (.cells (stCells c A xs.length cp M nm cm t0 t1 t2 t3 t4 t5 t6 t7 t8 t9) 34)) := heap_alloc_new w _
  unfold stCells at *
  go_enter Tryd.func11, Tryd.ntmps11
  go_wp2_with fail
  refine (pnew_any _ c).mono ?_
  rintro e w1 ⟨rfl, hb1⟩
  rw [he.out, hm.out]
  have HB1 : Hid (Below w.heap.size w w1) := HB0.out.trans (hb1.mono (by simp))
  have hz1 := HB1.out.size
  have HBL1 := Lib.hid ((hb1.block _ (by simp)).trans HBL.out)
  clear hb1 HB0 HBL
  go_wp2_with fail
  obtain ⟨W1, hW1⟩ : ∃ W1, W1 = w1.alloc (.cells #[.int .i64 c.cells, .int .i64 c.muts, .int .i64 c.regs, .int .i64 c.globs] 88) := ⟨_, rfl⟩
  have HM1 : Hid (W1.heap[w1.heap.size]? = some c.mobj) := by rw [hW1]; exact heap_alloc_new w1 c.mobj
  have hbw : Below w1.heap.size w1 W1 := by rw [hW1]; exact (Below.refl _ w1).alloc (Nat.le_refl _) _
  have hlt1 := block_lt HBL1.out
  have HBL2 := Lib.hid ((hbw.block _ hlt1).trans HBL1.out)
  have HB2 : Hid (Below w.heap.size w W1) := HB1.out.trans (hbw.mono hz1)
  have HALL : Hid (∀ W, Below W1.heap.size W1 W → W.cell? ⟨w1.heap.size, 0, none⟩ = some (.int .i64 c.cells) ∧ W.cell? ⟨w1.heap.size, 1, none⟩ = some (.int .i64 c.muts) ∧ W.cell? ⟨w1.heap.size, 2, none⟩ = some (.int .i64 c.regs) ∧ W.cell? ⟨w1.heap.size, 3, none⟩ = some (.int .i64 c.globs) ∧ W.cell? ⟨w.heap.size, 0, none⟩ = some (.int .i64 c.cells) ∧ W.cell? ⟨w.heap.size, 1, none⟩ = some (.int .i64 c.muts) ∧ W.cell? ⟨w.heap.size, 2, none⟩ = some (.int .i64 c.regs) ∧ W.cell? ⟨w.heap.size, 3, none⟩ = some (.int .i64 c.globs) ∧ W.cell? ⟨w.heap.size, 4, none⟩ = some (.slice A xs.length cp) ∧ W.cell? ⟨w.heap.size, 5, none⟩ = some (.slice M nm cm) ∧ Below W1.heap.size W1 W) := fun W hB => by
    obtain ⟨f0, f1, f2, f3⟩ := Cfg.mcells_at ((hB.block _ (block_lt HM1.out)).trans HM1.out)
    have hh := (hB.block _ (block_lt HBL2.out)).trans HBL2.out
    exact ⟨f0, f1, f2, f3, cell_of_block hh 0, cell_of_block hh 1, cell_of_block hh 2, cell_of_block hh 3, cell_of_block hh 4, cell_of_block hh 5, hB⟩
  rw [← hW1]
  clear hW1 hbw hlt1 HBL1
  refine wp_region_held_drew (S := (fun W => W.cell? ⟨w1.heap.size, 0, none⟩ = some (.int .i64 c.cells) ∧ W.cell? ⟨w1.heap.size, 1, none⟩ = some (.int .i64 c.muts) ∧ W.cell? ⟨w1.heap.size, 2, none⟩ = some (.int .i64 c.regs) ∧ W.cell? ⟨w1.heap.size, 3, none⟩ = some (.int .i64 c.globs) ∧ W.cell? ⟨w.heap.size, 0, none⟩ = some (.int .i64 c.cells) ∧ W.cell? ⟨w.heap.size, 1, none⟩ = some (.int .i64 c.muts) ∧ W.cell? ⟨w.heap.size, 2, none⟩ = some (.int .i64 c.regs) ∧ W.cell? ⟨w.heap.size, 3, none⟩ = some (.int .i64 c.globs) ∧ W.cell? ⟨w.heap.size, 4, none⟩ = some (.slice A xs.length cp) ∧ W.cell? ⟨w.heap.size, 5, none⟩ = some (.slice M nm cm) ∧ Below W1.heap.size W1 W)) (by kernel_rfl) ?_ (fun hHeld => ?_)
  · exact HALL.out _ (Below.refl _ _).drew
  refine wpAnyH_take (i := 0) (oi := ?oi1) (v := ?v1) ?hi1 (by kernel_rfl) (by kernel_rfl) (by kernel_rfl) ?hq1 (Or.inl ⟨?hw1, ?hy1⟩) (by assumption) ?rest1
  case hi1 => simp only [List.getElem?_toArray, List.getElem?_cons_succ, List.getElem?_cons_zero]; rfl
  case hq1 => exact fun _ _ _ h => h
  case hw1 => kernel_rfl
  case hy1 => (intro w hSw; (try dsimp only at hSw); go_simp; try with_reducible rfl)
  try simp only [Act.put, List.setIfInBounds_toArray, List.set_cons_zero, List.set_cons_succ]
  refine wpAnyH_take (i := 1) (oi := ?oi2) (v := ?v2) ?hi2 (by kernel_rfl) (by kernel_rfl) (by kernel_rfl) ?hq2 (Or.inl ⟨?hw2, ?hy2⟩) (by assumption) ?rest2
  case hi2 => simp only [List.getElem?_toArray, List.getElem?_cons_succ, List.getElem?_cons_zero]; rfl
  case hq2 => exact fun _ _ _ h => h
  case hw2 => kernel_rfl
  case hy2 => (intro w hSw; (try dsimp only at hSw); go_simp; try with_reducible rfl)
  try simp only [Act.put, List.setIfInBounds_toArray, List.set_cons_zero, List.set_cons_succ]
  refine wpAnyH_take (i := 2) (oi := ?oi3) (v := ?v3) ?hi3 (by kernel_rfl) (by kernel_rfl) (by kernel_rfl) ?hq3 (Or.inl ⟨?hw3, ?hy3⟩) (by assumption) ?rest3
  case hi3 => simp only [List.getElem?_toArray, List.getElem?_cons_succ, List.getElem?_cons_zero]; rfl
  case hq3 => exact fun _ _ _ h => h
  case hw3 => kernel_rfl
  case hy3 => (intro w hSw; (try dsimp only at hSw); go_simp; try with_reducible rfl)
  try simp only [Act.put, List.setIfInBounds_toArray, List.set_cons_zero, List.set_cons_succ]
  refine wpAnyH_take (i := 3) (oi := ?oi4) (v := ?v4) ?hi4 (by kernel_rfl) (by kernel_rfl) (by kernel_rfl) ?hq4 (Or.inl ⟨?hw4, ?hy4⟩) (by assumption) ?rest4
  case hi4 => simp only [List.getElem?_toArray, List.getElem?_cons_succ, List.getElem?_cons_zero]; rfl
  case hq4 => exact fun _ _ _ h => h
  case hw4 => kernel_rfl
  case hy4 => (intro w hSw; (try dsimp only at hSw); go_simp; try with_reducible rfl)
  try simp only [Act.put, List.setIfInBounds_toArray, List.set_cons_zero, List.set_cons_succ]
  refine wpAnyH_take (i := 4) (oi := ?oi5) (v := ?v5) ?hi5 (by kernel_rfl) (by kernel_rfl) (by kernel_rfl) ?hq5 (Or.inl ⟨?hw5, ?hy5⟩) (by assumption) ?rest5
  case hi5 => simp only [List.getElem?_toArray, List.getElem?_cons_succ, List.getElem?_cons_zero]; rfl
  case hq5 => exact fun _ _ _ h => h
  case hw5 => kernel_rfl
  case hy5 => (intro w hSw; (try dsimp only at hSw); go_simp; try with_reducible rfl)
  try simp only [Act.put, List.setIfInBounds_toArray, List.set_cons_zero, List.set_cons_succ]
  refine wpAnyH_take (i := 5) (oi := ?oi6) (v := ?v6) ?hi6 (by kernel_rfl) (by kernel_rfl) (by kernel_rfl) ?hq6 (Or.inl ⟨?hw6, ?hy6⟩) (by assumption) ?rest6
  case hi6 => simp only [List.getElem?_toArray, List.getElem?_cons_succ, List.getElem?_cons_zero]; rfl
  case hq6 => exact fun _ _ _ h => h
  case hw6 => kernel_rfl
  case hy6 => (intro w hSw; (try dsimp only at hSw); go_simp; try with_reducible rfl)
  try simp only [Act.put, List.setIfInBounds_toArray, List.set_cons_zero, List.set_cons_succ]
  refine wpAnyH_take (i := 6) (oi := ?oi7) (v := ?v7) ?hi7 (by kernel_rfl) (by kernel_rfl) (by kernel_rfl) ?hq7 (Or.inl ⟨?hw7, ?hy7⟩) (by assumption) ?rest7
  case hi7 => simp only [List.getElem?_toArray, List.getElem?_cons_succ, List.getElem?_cons_zero]; rfl
  case hq7 => exact fun _ _ _ h => h
  case hw7 => kernel_rfl
  case hy7 => (intro w hSw; (try dsimp only at hSw); go_simp; try with_reducible rfl)
  try simp only [Act.put, List.setIfInBounds_toArray, List.set_cons_zero, List.set_cons_succ]
  refine wpAnyH_ready (rs := [7]) (by kernel_rfl) (by simp) ?_
  refine AllReadyH.cons (o := ?o8) ?ho8 (fun K hK => ?st8) AllReadyH.nil
  case ho8 => simp only [List.getElem?_toArray, List.getElem?_cons_succ, List.getElem?_cons_zero]; rfl
  go_simp
  refine (size_any _ c).mono ?_
  rintro e wq ⟨rfl, hb2⟩
  have hBel := Below.trans hHeld.2.2.2.2.2.2.2.2.2.2 (hb2.mono (Below.size hHeld.2.2.2.2.2.2.2.2.2.2))
  clear hHeld
  try go_simp
  refine hK.out _ _ ?_ (fun hHeld => ?_)
  · exact HALL.out _ hBel
  clear hK K hb2 hBel
  try simp only [Act.put, List.setIfInBounds_toArray, List.set_cons_zero, List.set_cons_succ]
  refine wpAnyH_take (i := 8) (oi := ?oi9) (v := ?v9) ?hi9 (by kernel_rfl) (by kernel_rfl) (by kernel_rfl) ?hq9 (Or.inl ⟨?hw9, ?hy9⟩) (by assumption) ?rest9
  case hi9 => simp only [List.getElem?_toArray, List.getElem?_cons_succ, List.getElem?_cons_zero]; rfl
  case hq9 => exact fun _ _ _ h => h
  case hw9 => kernel_rfl
  case hy9 => (intro w hSw; (try dsimp only at hSw); go_simp; try with_reducible rfl)
  try simp only [Act.put, List.setIfInBounds_toArray, List.set_cons_zero, List.set_cons_succ]
  refine wpAnyH_take (i := 9) (oi := ?oi10) (v := ?v10) ?hi10 (by kernel_rfl) (by kernel_rfl) (by kernel_rfl) ?hq10 (Or.inl ⟨?hw10, ?hy10⟩) (by assumption) ?rest10
  case hi10 => simp only [List.getElem?_toArray, List.getElem?_cons_succ, List.getElem?_cons_zero]; rfl
  case hq10 => exact fun _ _ _ h => h
  case hw10 => kernel_rfl
  case hy10 => (intro w hSw; (try dsimp only at hSw); go_simp; try with_reducible rfl)
  try simp only [Act.put, List.setIfInBounds_toArray, List.set_cons_zero, List.set_cons_succ]
  refine wpAnyH_take (i := 10) (oi := ?oi11) (v := ?v11) ?hi11 (by kernel_rfl) (by kernel_rfl) (by kernel_rfl) ?hq11 (Or.inl ⟨?hw11, ?hy11⟩) (by assumption) ?rest11
  case hi11 => simp only [List.getElem?_toArray, List.getElem?_cons_succ, List.getElem?_cons_zero]; rfl
  case hq11 => exact fun _ _ _ h => h
  case hw11 => kernel_rfl
  case hy11 => (intro w hSw; (try dsimp only at hSw); go_simp; try with_reducible rfl)
  try simp only [Act.put, List.setIfInBounds_toArray, List.set_cons_zero, List.set_cons_succ]
  refine wpAnyH_take (i := 11) (oi := ?oi12) (v := ?v12) ?hi12 (by kernel_rfl) (by kernel_rfl) (by kernel_rfl) ?hq12 (Or.inl ⟨?hw12, ?hy12⟩) (by assumption) ?rest12
  case hi12 => simp only [List.getElem?_toArray, List.getElem?_cons_succ, List.getElem?_cons_zero]; rfl
  case hq12 => exact fun _ _ _ h => h
  case hw12 => kernel_rfl
  case hy12 => (intro w hSw; (try dsimp only at hSw); go_simp; try with_reducible rfl)
  try simp only [Act.put, List.setIfInBounds_toArray, List.set_cons_zero, List.set_cons_succ]
  refine wpAnyH_take (i := 12) (oi := ?oi13) (v := ?v13) ?hi13 (by kernel_rfl) (by kernel_rfl) (by kernel_rfl) ?hq13 (Or.inl ⟨?hw13, ?hy13⟩) (by assumption) ?rest13
  case hi13 => simp only [List.getElem?_toArray, List.getElem?_cons_succ, List.getElem?_cons_zero]; rfl
  case hq13 => exact fun _ _ _ h => h
  case hw13 => kernel_rfl
  case hy13 => (intro w hSw; (try dsimp only at hSw); go_simp; try with_reducible rfl)
  try simp only [Act.put, List.setIfInBounds_toArray, List.set_cons_zero, List.set_cons_succ]
  refine wpAnyH_take (i := 13) (oi := ?oi14) (v := ?v14) ?hi14 (by kernel_rfl) (by kernel_rfl) (by kernel_rfl) ?hq14 (Or.inl ⟨?hw14, ?hy14⟩) (by assumption) ?rest14
  case hi14 => simp only [List.getElem?_toArray, List.getElem?_cons_succ, List.getElem?_cons_zero]; rfl
  case hq14 => exact fun _ _ _ h => h
  case hw14 => kernel_rfl
  case hy14 => (intro w hSw; (try dsimp only at hSw); go_simp; try with_reducible rfl)
  try simp only [Act.put, List.setIfInBounds_toArray, List.set_cons_zero, List.set_cons_succ]
  refine wpAnyH_take (i := 14) (oi := ?oi15) (v := ?v15) ?hi15 (by kernel_rfl) (by kernel_rfl) (by kernel_rfl) ?hq15 (Or.inl ⟨?hw15, ?hy15⟩) (by assumption) ?rest15
  case hi15 => simp only [List.getElem?_toArray, List.getElem?_cons_succ, List.getElem?_cons_zero]; rfl
  case hq15 => exact fun _ _ _ h => h
  case hw15 => kernel_rfl
  case hy15 => (intro w hSw; (try dsimp only at hSw); go_simp; try with_reducible rfl)
  try simp only [Act.put, List.setIfInBounds_toArray, List.set_cons_zero, List.set_cons_succ]
  refine wpAnyH_take (i := 15) (oi := ?oi16) (v := ?v16) ?hi16 (by kernel_rfl) (by kernel_rfl) (by kernel_rfl) ?hq16 (Or.inl ⟨?hw16, ?hy16⟩) (by assumption) ?rest16
  case hi16 => simp only [List.getElem?_toArray, List.getElem?_cons_succ, List.getElem?_cons_zero]; rfl
  case hq16 => exact fun _ _ _ h => h
  case hw16 => kernel_rfl
  case hy16 => (intro w hSw; (try dsimp only at hSw); go_simp; try with_reducible rfl)
  try simp only [Act.put, List.setIfInBounds_toArray, List.set_cons_zero, List.set_cons_succ]
  refine wpAnyH_take (i := 16) (oi := ?oi17) (v := ?v17) ?hi17 (by kernel_rfl) (by kernel_rfl) (by kernel_rfl) ?hq17 (Or.inl ⟨?hw17, ?hy17⟩) (by assumption) ?rest17
  case hi17 => simp only [List.getElem?_toArray, List.getElem?_cons_succ, List.getElem?_cons_zero]; rfl
  case hq17 => exact fun _ _ _ h => h
  case hw17 => kernel_rfl
  case hy17 => (intro w hSw; (try dsimp only at hSw); go_simp; try with_reducible rfl)
  try simp only [Act.put, List.setIfInBounds_toArray, List.set_cons_zero, List.set_cons_succ]
  refine wpAnyH_take (i := 17) (oi := ?oi18) (v := ?v18) ?hi18 (by kernel_rfl) (by kernel_rfl) (by kernel_rfl) ?hq18 (Or.inl ⟨?hw18, ?hy18⟩) (by assumption) ?rest18
  case hi18 => simp only [List.getElem?_toArray, List.getElem?_cons_succ, List.getElem?_cons_zero]; rfl
  case hq18 => exact fun _ _ _ h => h
  case hw18 => kernel_rfl
  case hy18 => (intro w hSw; (try dsimp only at hSw); go_simp; try with_reducible rfl)
  try simp only [Act.put, List.setIfInBounds_toArray, List.set_cons_zero, List.set_cons_succ]
  refine wpAnyH_take (i := 18) (oi := ?oi19) (v := ?v19) ?hi19 (by kernel_rfl) (by kernel_rfl) (by kernel_rfl) ?hq19 (Or.inl ⟨?hw19, ?hy19⟩) (by assumption) ?rest19
  case hi19 => simp only [List.getElem?_toArray, List.getElem?_cons_succ, List.getElem?_cons_zero]; rfl
  case hq19 => exact fun _ _ _ h => h
  case hw19 => kernel_rfl
  case hy19 => (intro w hSw; (try dsimp only at hSw); go_simp; try with_reducible rfl)
  try simp only [Act.put, List.setIfInBounds_toArray, List.set_cons_zero, List.set_cons_succ]
  refine wpAnyH_take (i := 19) (oi := ?oi20) (v := ?v20) ?hi20 (by kernel_rfl) (by kernel_rfl) (by kernel_rfl) ?hq20 (Or.inl ⟨?hw20, ?hy20⟩) (by assumption) ?rest20
  case hi20 => simp only [List.getElem?_toArray, List.getElem?_cons_succ, List.getElem?_cons_zero]; rfl
  case hq20 => exact fun _ _ _ h => h
  case hw20 => kernel_rfl
  case hy20 => (intro w hSw; (try dsimp only at hSw); go_simp; try with_reducible rfl)
  try simp only [Act.put, List.setIfInBounds_toArray, List.set_cons_zero, List.set_cons_succ]
  refine wpAnyH_take (i := 20) (oi := ?oi21) (v := ?v21) ?hi21 (by kernel_rfl) (by kernel_rfl) (by kernel_rfl) ?hq21 (Or.inl ⟨?hw21, ?hy21⟩) (by assumption) ?rest21
  case hi21 => simp only [List.getElem?_toArray, List.getElem?_cons_succ, List.getElem?_cons_zero]; rfl
  case hq21 => exact fun _ _ _ h => h
  case hw21 => kernel_rfl
  case hy21 => (intro w hSw; (try dsimp only at hSw); go_simp; try with_reducible rfl)
  try simp only [Act.put, List.setIfInBounds_toArray, List.set_cons_zero, List.set_cons_succ]
  refine wpAnyH_take (i := 21) (oi := ?oi22) (v := ?v22) ?hi22 (by kernel_rfl) (by kernel_rfl) (by kernel_rfl) ?hq22 (Or.inl ⟨?hw22, ?hy22⟩) (by assumption) ?rest22
  case hi22 => simp only [List.getElem?_toArray, List.getElem?_cons_succ, List.getElem?_cons_zero]; rfl
  case hq22 => exact fun _ _ _ h => h
  case hw22 => kernel_rfl
  case hy22 => (intro w hSw; (try dsimp only at hSw); go_simp; try with_reducible rfl)
  try simp only [Act.put, List.setIfInBounds_toArray, List.set_cons_zero, List.set_cons_succ]
  refine wpAnyH_take (i := 22) (oi := ?oi23) (v := ?v23) ?hi23 (by kernel_rfl) (by kernel_rfl) (by kernel_rfl) ?hq23 (Or.inl ⟨?hw23, ?hy23⟩) (by assumption) ?rest23
  case hi23 => simp only [List.getElem?_toArray, List.getElem?_cons_succ, List.getElem?_cons_zero]; rfl
  case hq23 => exact fun _ _ _ h => h
  case hw23 => kernel_rfl
  case hy23 => (intro w hSw; (try dsimp only at hSw); go_simp; try with_reducible rfl)
  try simp only [Act.put, List.setIfInBounds_toArray, List.set_cons_zero, List.set_cons_succ]
  refine wpAnyH_take (i := 23) (oi := ?oi24) (v := ?v24) ?hi24 (by kernel_rfl) (by kernel_rfl) (by kernel_rfl) ?hq24 (Or.inl ⟨?hw24, ?hy24⟩) (by assumption) ?rest24
  case hi24 => simp only [List.getElem?_toArray, List.getElem?_cons_succ, List.getElem?_cons_zero]; rfl
  case hq24 => exact fun _ _ _ h => h
  case hw24 => kernel_rfl
  case hy24 => (intro w hSw; (try dsimp only at hSw); go_simp; try with_reducible rfl)
  try simp only [Act.put, List.setIfInBounds_toArray, List.set_cons_zero, List.set_cons_succ]
  refine wpAnyH_take (i := 24) (oi := ?oi25) (v := ?v25) ?hi25 (by kernel_rfl) (by kernel_rfl) (by kernel_rfl) ?hq25 (Or.inl ⟨?hw25, ?hy25⟩) (by assumption) ?rest25
  case hi25 => simp only [List.getElem?_toArray, List.getElem?_cons_succ, List.getElem?_cons_zero]; rfl
  case hq25 => exact fun _ _ _ h => h
  case hw25 => kernel_rfl
  case hy25 => (intro w hSw; (try dsimp only at hSw); go_simp; try with_reducible rfl)
  try simp only [Act.put, List.setIfInBounds_toArray, List.set_cons_zero, List.set_cons_succ]
  refine wpAnyH_take (i := 25) (oi := ?oi26) (v := ?v26) ?hi26 (by kernel_rfl) (by kernel_rfl) (by kernel_rfl) ?hq26 (Or.inl ⟨?hw26, ?hy26⟩) (by assumption) ?rest26
  case hi26 => simp only [List.getElem?_toArray, List.getElem?_cons_succ, List.getElem?_cons_zero]; rfl
  case hq26 => exact fun _ _ _ h => h
  case hw26 => kernel_rfl
  case hy26 => (intro w hSw; (try dsimp only at hSw); go_simp; try with_reducible rfl)
  try simp only [Act.put, List.setIfInBounds_toArray, List.set_cons_zero, List.set_cons_succ]
  refine wpAnyH_take (i := 26) (oi := ?oi27) (v := ?v27) ?hi27 (by kernel_rfl) (by kernel_rfl) (by kernel_rfl) ?hq27 (Or.inl ⟨?hw27, ?hy27⟩) (by assumption) ?rest27
  case hi27 => simp only [List.getElem?_toArray, List.getElem?_cons_succ, List.getElem?_cons_zero]; rfl
  case hq27 => exact fun _ _ _ h => h
  case hw27 => kernel_rfl
  case hy27 => (intro w hSw; (try dsimp only at hSw); go_simp; try with_reducible rfl)
  try simp only [Act.put, List.setIfInBounds_toArray, List.set_cons_zero, List.set_cons_succ]
  refine wpAnyH_take (i := 27) (oi := ?oi28) (v := ?v28) ?hi28 (by kernel_rfl) (by kernel_rfl) (by kernel_rfl) ?hq28 (Or.inl ⟨?hw28, ?hy28⟩) (by assumption) ?rest28
  case hi28 => simp only [List.getElem?_toArray, List.getElem?_cons_succ, List.getElem?_cons_zero]; rfl
  case hq28 => exact fun _ _ _ h => h
  case hw28 => kernel_rfl
  case hy28 => (intro w hSw; (try dsimp only at hSw); go_simp; try with_reducible rfl)
  try simp only [Act.put, List.setIfInBounds_toArray, List.set_cons_zero, List.set_cons_succ]
  refine wpAnyH_take (i := 28) (oi := ?oi29) (v := ?v29) ?hi29 (by kernel_rfl) (by kernel_rfl) (by kernel_rfl) ?hq29 (Or.inl ⟨?hw29, ?hy29⟩) (by assumption) ?rest29
  case hi29 => simp only [List.getElem?_toArray, List.getElem?_cons_succ, List.getElem?_cons_zero]; rfl
  case hq29 => exact fun _ _ _ h => h
  case hw29 => kernel_rfl
  case hy29 => (intro w hSw; (try dsimp only at hSw); go_simp; try with_reducible rfl)
  try simp only [Act.put, List.setIfInBounds_toArray, List.set_cons_zero, List.set_cons_succ]
  refine wpAnyH_take (i := 29) (oi := ?oi30) (v := ?v30) ?hi30 (by kernel_rfl) (by kernel_rfl) (by kernel_rfl) ?hq30 (Or.inl ⟨?hw30, ?hy30⟩) (by assumption) ?rest30
  case hi30 => simp only [List.getElem?_toArray, List.getElem?_cons_succ, List.getElem?_cons_zero]; rfl
  case hq30 => exact fun _ _ _ h => h
  case hw30 => kernel_rfl
  case hy30 => (intro w hSw; (try dsimp only at hSw); go_simp; try with_reducible rfl)
  try simp only [Act.put, List.setIfInBounds_toArray, List.set_cons_zero, List.set_cons_succ]
  refine wpAnyH_done (by kernel_rfl) ?_ _
  rename_i wq
  have HBQ := Lib.hid (hHeld.2.2.2.2.2.2.2.2.2.2)
  have c2 := hHeld.2.2.2.2.2.2.1
  clear hHeld
  have hrg := HOK.out
  rw [Cfg.ok_iff] at hrg
  obtain ⟨g1, g2, g3, g4, g5, g6, g7, g8⟩ := hrg
  go_wp2_with fail
  clear tn tm tz tg
  go_loopw [9, 10, 50] (fun v _ iv wr => ∃ k : Nat, (k : Int) ≤ c.regs ∧ iv = .int .i64 k ∧ Hid (wr.ownsRow W1.heap.size 9 1 v (regTxts c xs m most k).length ((regTxts c xs m most k).map Value.string)) ∧ Hid (Below W1.heap.size W1 wr)) (fun _ _ iv _ => c.regs.toNat - (intOf iv).toNat)
  case atStart => exact ⟨0, by omega, rfl, own_nil _ _, HBQ⟩
  case round =>
    obtain ⟨k, hk, rfl, HO, HBr⟩ := hrel
    by_cases hlt : (k : Int) < c.regs
    · obtain ⟨j, hj9⟩ : ∃ j, j = (5 + c.muts + c.globs + m * c.regs + (k : Int)).toNat := ⟨_, rfl⟩
      have hmr := c.mr HOK.out
      have hmm : m * c.regs + c.regs ≤ c.muts * c.regs := by
        have h := Int.mul_le_mul_of_nonneg_right (show m + 1 ≤ c.muts by omega) (show 0 ≤ c.regs by omega)
        rw [Int.add_mul, Int.one_mul] at h
        exact h
      have hmz : 0 ≤ m * c.regs := Int.mul_nonneg hm0 (by omega)
      have hjw : j < xs.length := by
        have h := HN.out
        unfold Cfg.words Cfg.roots at h
        rw [if_pos HOK.out, if_pos HOK.out] at h
        omega
      have HRG : Hid (∀ W, Calls Tryd.prog 46 #[c.v, .int .i64 m, .int .i64 (k : Int)] W fun e w' => e = .returned (.int .i64 (j : Int)) ∧ Below W.heap.size W w') := fun W => by
        have h := reg_any W c m (k : Int)
        rw [c.reg_ok HOK.out, if_pos (by omega)] at h
        rwa [show 5 + c.muts + c.globs + m * c.regs + (k : Int) = (j : Int) by omega] at h
      have HNX : Hid (regTxts c xs m most (k + 1) = regTxts c xs m most k ++ [wtxt (prsOf c xs) (wd xs j) most]) := by
        unfold Hid
        rw [regTxts_next, ← hj9]
      have HWR : Hid (∀ W, Below W1.heap.size W1 W → Calls Tryd.prog 14 #[c.v, .slice A xs.length cp, .int .u64 (wd xs j), .int .i64 most] W fun e w' => e = .returned (.string (wtxt (prsOf c xs) (wd xs j) most)) ∧ Below W.heap.size W w') := fun W hW => by
        have hh : Below w.heap.size w W := HB2.out.trans (hW.mono HB2.out.size)
        exact write_ok W B c A xs cp (wd xs j) most HOK.out HN.out (Nat.le_trans hB hh.size) (HXS.out.below (hh.mono hB)) (wd_ok HWX.out j) HWX.out (HT.out.below (Nat.le_refl _) hh)
      have HKL : Hid (k < 64) := by unfold Hid; omega
      clear hj9 hmr hmm hmz
      generalize wtxt (prsOf c xs) (wd xs j) most = tx at *
      obtain ⟨ad, rfl, hadB, hca⟩ := HXS.out.cell (Below.refl _ _) hjw
      have HALL2 : Hid (∀ W, Below W1.heap.size W1 W → W.cell? ⟨w1.heap.size, 0, none⟩ = some (.int .i64 c.cells) ∧ W.cell? ⟨w1.heap.size, 1, none⟩ = some (.int .i64 c.muts) ∧ W.cell? ⟨w1.heap.size, 2, none⟩ = some (.int .i64 c.regs) ∧ W.cell? ⟨w1.heap.size, 3, none⟩ = some (.int .i64 c.globs) ∧ W.cell? ⟨w.heap.size, 0, none⟩ = some (.int .i64 c.cells) ∧ W.cell? ⟨w.heap.size, 1, none⟩ = some (.int .i64 c.muts) ∧ W.cell? ⟨w.heap.size, 2, none⟩ = some (.int .i64 c.regs) ∧ W.cell? ⟨w.heap.size, 3, none⟩ = some (.int .i64 c.globs) ∧ W.cell? ⟨w.heap.size, 4, none⟩ = some (.slice (some ad) xs.length cp) ∧ W.cell? ⟨w.heap.size, 5, none⟩ = some (.slice M nm cm) ∧ W.cell? (ad.add j) = some (.int .u64 (wd xs j)) ∧ Below W1.heap.size W1 W) := fun W hW => by
        obtain ⟨l0, l1, l2, l3, l4, l5, l6, l7, l8, l9, l10⟩ := HALL.out W hW
        exact ⟨l0, l1, l2, l3, l4, l5, l6, l7, l8, l9, ((HB2.out.trans (hW.mono HB2.out.size)).cell (by rw [block_of_add]; omega)).trans hca, hW⟩
      have i1 : (0 : Int) ≤ (j : Int) := by omega
      have i2 : (j : Int) < (xs.length : Int) := by omega
      have i3 : (0 : Int) ≤ (k : Int) := by omega
      have sk2 : IntKind.i64.wrap ((k : Int) + 1) = (k : Int) + 1 := IntWalk.i64_in _ (by omega)
      clear hca hadB
      go_wp2_with fail
      refine wp_region_held_drew (S := (fun W => W.cell? ⟨w1.heap.size, 0, none⟩ = some (.int .i64 c.cells) ∧ W.cell? ⟨w1.heap.size, 1, none⟩ = some (.int .i64 c.muts) ∧ W.cell? ⟨w1.heap.size, 2, none⟩ = some (.int .i64 c.regs) ∧ W.cell? ⟨w1.heap.size, 3, none⟩ = some (.int .i64 c.globs) ∧ W.cell? ⟨w.heap.size, 0, none⟩ = some (.int .i64 c.cells) ∧ W.cell? ⟨w.heap.size, 1, none⟩ = some (.int .i64 c.muts) ∧ W.cell? ⟨w.heap.size, 2, none⟩ = some (.int .i64 c.regs) ∧ W.cell? ⟨w.heap.size, 3, none⟩ = some (.int .i64 c.globs) ∧ W.cell? ⟨w.heap.size, 4, none⟩ = some (.slice (some ad) xs.length cp) ∧ W.cell? ⟨w.heap.size, 5, none⟩ = some (.slice M nm cm) ∧ W.cell? (ad.add j) = some (.int .u64 (wd xs j)) ∧ Below W1.heap.size W1 W)) (by kernel_rfl) ?_ (fun hHeld => ?_)
      · exact HALL2.out _ HBr.out.drew
      refine wpAnyH_take (i := 0) (oi := ?oi31) (v := ?v31) ?hi31 (by kernel_rfl) (by kernel_rfl) (by kernel_rfl) ?hq31 (Or.inl ⟨?hw31, ?hy31⟩) (by assumption) ?rest31
      case hi31 => simp only [List.getElem?_toArray, List.getElem?_cons_succ, List.getElem?_cons_zero]; rfl
      case hq31 => exact fun _ _ _ h => h
      case hw31 => kernel_rfl
      case hy31 => (intro w hSw; (try dsimp only at hSw); go_simp; try with_reducible rfl)
      try simp only [Act.put, List.setIfInBounds_toArray, List.set_cons_zero, List.set_cons_succ]
      refine wpAnyH_take (i := 1) (oi := ?oi32) (v := ?v32) ?hi32 (by kernel_rfl) (by kernel_rfl) (by kernel_rfl) ?hq32 (Or.inl ⟨?hw32, ?hy32⟩) (by assumption) ?rest32
      case hi32 => simp only [List.getElem?_toArray, List.getElem?_cons_succ, List.getElem?_cons_zero]; rfl
      case hq32 => exact fun _ _ _ h => h
      case hw32 => kernel_rfl
      case hy32 => (intro w hSw; (try dsimp only at hSw); go_simp; try with_reducible rfl)
      try simp only [Act.put, List.setIfInBounds_toArray, List.set_cons_zero, List.set_cons_succ]
      refine wpAnyH_take (i := 2) (oi := ?oi33) (v := ?v33) ?hi33 (by kernel_rfl) (by kernel_rfl) (by kernel_rfl) ?hq33 (Or.inl ⟨?hw33, ?hy33⟩) (by assumption) ?rest33
      case hi33 => simp only [List.getElem?_toArray, List.getElem?_cons_succ, List.getElem?_cons_zero]; rfl
      case hq33 => exact fun _ _ _ h => h
      case hw33 => kernel_rfl
      case hy33 => (intro w hSw; (try dsimp only at hSw); go_simp; try with_reducible rfl)
      try simp only [Act.put, List.setIfInBounds_toArray, List.set_cons_zero, List.set_cons_succ]
      refine wpAnyH_take (i := 3) (oi := ?oi34) (v := ?v34) ?hi34 (by kernel_rfl) (by kernel_rfl) (by kernel_rfl) ?hq34 (Or.inl ⟨?hw34, ?hy34⟩) (by assumption) ?rest34
      case hi34 => simp only [List.getElem?_toArray, List.getElem?_cons_succ, List.getElem?_cons_zero]; rfl
      case hq34 => exact fun _ _ _ h => h
      case hw34 => kernel_rfl
      case hy34 => (intro w hSw; (try dsimp only at hSw); go_simp; try with_reducible rfl)
      try simp only [Act.put, List.setIfInBounds_toArray, List.set_cons_zero, List.set_cons_succ]
      refine wpAnyH_take (i := 4) (oi := ?oi35) (v := ?v35) ?hi35 (by kernel_rfl) (by kernel_rfl) (by kernel_rfl) ?hq35 (Or.inl ⟨?hw35, ?hy35⟩) (by assumption) ?rest35
      case hi35 => simp only [List.getElem?_toArray, List.getElem?_cons_succ, List.getElem?_cons_zero]; rfl
      case hq35 => exact fun _ _ _ h => h
      case hw35 => kernel_rfl
      case hy35 => (intro w hSw; (try dsimp only at hSw); go_simp; try with_reducible rfl)
      try simp only [Act.put, List.setIfInBounds_toArray, List.set_cons_zero, List.set_cons_succ]
      refine wpAnyH_take (i := 5) (oi := ?oi36) (v := ?v36) ?hi36 (by kernel_rfl) (by kernel_rfl) (by kernel_rfl) ?hq36 (Or.inl ⟨?hw36, ?hy36⟩) (by assumption) ?rest36
      case hi36 => simp only [List.getElem?_toArray, List.getElem?_cons_succ, List.getElem?_cons_zero]; rfl
      case hq36 => exact fun _ _ _ h => h
      case hw36 => kernel_rfl
      case hy36 => (intro w hSw; (try dsimp only at hSw); go_simp; try with_reducible rfl)
      try simp only [Act.put, List.setIfInBounds_toArray, List.set_cons_zero, List.set_cons_succ]
      refine wpAnyH_take (i := 6) (oi := ?oi37) (v := ?v37) ?hi37 (by kernel_rfl) (by kernel_rfl) (by kernel_rfl) ?hq37 (Or.inl ⟨?hw37, ?hy37⟩) (by assumption) ?rest37
      case hi37 => simp only [List.getElem?_toArray, List.getElem?_cons_succ, List.getElem?_cons_zero]; rfl
      case hq37 => exact fun _ _ _ h => h
      case hw37 => kernel_rfl
      case hy37 => (intro w hSw; (try dsimp only at hSw); go_simp; try with_reducible rfl)
      try simp only [Act.put, List.setIfInBounds_toArray, List.set_cons_zero, List.set_cons_succ]
      refine wpAnyH_take (i := 7) (oi := ?oi38) (v := ?v38) ?hi38 (by kernel_rfl) (by kernel_rfl) (by kernel_rfl) ?hq38 (Or.inl ⟨?hw38, ?hy38⟩) (by assumption) ?rest38
      case hi38 => simp only [List.getElem?_toArray, List.getElem?_cons_succ, List.getElem?_cons_zero]; rfl
      case hq38 => exact fun _ _ _ h => h
      case hw38 => kernel_rfl
      case hy38 => (intro w hSw; (try dsimp only at hSw); go_simp; try with_reducible rfl)
      try simp only [Act.put, List.setIfInBounds_toArray, List.set_cons_zero, List.set_cons_succ]
      refine wpAnyH_take (i := 8) (oi := ?oi39) (v := ?v39) ?hi39 (by kernel_rfl) (by kernel_rfl) (by kernel_rfl) ?hq39 (Or.inl ⟨?hw39, ?hy39⟩) (by assumption) ?rest39
      case hi39 => simp only [List.getElem?_toArray, List.getElem?_cons_succ, List.getElem?_cons_zero]; rfl
      case hq39 => exact fun _ _ _ h => h
      case hw39 => kernel_rfl
      case hy39 => (intro w hSw; (try dsimp only at hSw); go_simp; try with_reducible rfl)
      try simp only [Act.put, List.setIfInBounds_toArray, List.set_cons_zero, List.set_cons_succ]
      refine wpAnyH_take (i := 9) (oi := ?oi40) (v := ?v40) ?hi40 (by kernel_rfl) (by kernel_rfl) (by kernel_rfl) ?hq40 (Or.inl ⟨?hw40, ?hy40⟩) (by assumption) ?rest40
      case hi40 => simp only [List.getElem?_toArray, List.getElem?_cons_succ, List.getElem?_cons_zero]; rfl
      case hq40 => exact fun _ _ _ h => h
      case hw40 => kernel_rfl
      case hy40 => (intro w hSw; (try dsimp only at hSw); go_simp; try with_reducible rfl)
      try simp only [Act.put, List.setIfInBounds_toArray, List.set_cons_zero, List.set_cons_succ]
      refine wpAnyH_take (i := 13) (oi := ?oi41) (v := ?v41) ?hi41 (by kernel_rfl) (by kernel_rfl) (by kernel_rfl) ?hq41 (Or.inl ⟨?hw41, ?hy41⟩) (by assumption) ?rest41
      case hi41 => simp only [List.getElem?_toArray, List.getElem?_cons_succ, List.getElem?_cons_zero]; rfl
      case hq41 => exact fun _ _ _ h => h
      case hw41 => kernel_rfl
      case hy41 => (intro w hSw; (try dsimp only at hSw); go_simp; try with_reducible rfl)
      try simp only [Act.put, List.setIfInBounds_toArray, List.set_cons_zero, List.set_cons_succ]
      refine wpAnyH_ready (rs := [10]) (by kernel_rfl) (by simp) ?_
      refine AllReadyH.cons (o := ?o42) ?ho42 (fun K hK => ?st42) AllReadyH.nil
      case ho42 => simp only [List.getElem?_toArray, List.getElem?_cons_succ, List.getElem?_cons_zero]; rfl
      go_simp
      go_at_call 46
      refine (HRG.out _).mono ?_
      rintro e wq1 ⟨rfl, hb2⟩
      have HO1 := Lib.hid (ownsRow_belowT (HO.out.drew) hb2)
      have hBel := Below.trans hHeld.2.2.2.2.2.2.2.2.2.2.2 (hb2.mono (Below.size hHeld.2.2.2.2.2.2.2.2.2.2.2))
      clear hHeld
      try go_simp
      refine hK.out _ _ ?_ (fun hHeld => ?_)
      · exact HALL2.out _ hBel
      clear hK K hb2 hBel
      try simp only [Act.put, List.setIfInBounds_toArray, List.set_cons_zero, List.set_cons_succ]
      refine wpAnyH_take (i := 11) (oi := ?oi43) (v := ?v43) ?hi43 (by kernel_rfl) (by kernel_rfl) (by kernel_rfl) ?hq43 (Or.inl ⟨?hw43, ?hy43⟩) (by assumption) ?rest43
      case hi43 => simp only [List.getElem?_toArray, List.getElem?_cons_succ, List.getElem?_cons_zero]; rfl
      case hq43 => exact fun _ _ _ h => h
      case hw43 => kernel_rfl
      case hy43 => (intro w hSw; (try dsimp only at hSw); go_simp; try with_reducible rfl)
      try simp only [Act.put, List.setIfInBounds_toArray, List.set_cons_zero, List.set_cons_succ]
      refine wpAnyH_take (i := 12) (oi := ?oi44) (v := ?v44) ?hi44 (by kernel_rfl) (by kernel_rfl) (by kernel_rfl) ?hq44 (Or.inl ⟨?hw44, ?hy44⟩) (by assumption) ?rest44
      case hi44 => simp only [List.getElem?_toArray, List.getElem?_cons_succ, List.getElem?_cons_zero]; rfl
      case hq44 => exact fun _ _ _ h => h
      case hw44 => kernel_rfl
      case hy44 => (intro w hSw; (try dsimp only at hSw); go_simp; try with_reducible rfl)
      try simp only [Act.put, List.setIfInBounds_toArray, List.set_cons_zero, List.set_cons_succ]
      refine wpAnyH_ready (rs := [14]) (by kernel_rfl) (by simp) ?_
      refine AllReadyH.cons (o := ?o45) ?ho45 (fun K hK => ?st45) AllReadyH.nil
      case ho45 => simp only [List.getElem?_toArray, List.getElem?_cons_succ, List.getElem?_cons_zero]; rfl
      go_simp
      go_at_call 14
      refine (HWR.out _ (hHeld.2.2.2.2.2.2.2.2.2.2.2)).mono ?_
      rintro e wp ⟨rfl, hb2⟩
      have HO2 := Lib.hid (ownsRow_belowT HO1.out hb2)
      have hBel := Below.trans hHeld.2.2.2.2.2.2.2.2.2.2.2 (hb2.mono (Below.size hHeld.2.2.2.2.2.2.2.2.2.2.2))
      clear hHeld
      try go_simp
      refine hK.out _ _ ?_ (fun hHeld => ?_)
      · exact HALL2.out _ hBel
      clear hK K hb2 hBel
      try simp only [Act.put, List.setIfInBounds_toArray, List.set_cons_zero, List.set_cons_succ]
      refine wpAnyH_ready (rs := [15]) (by kernel_rfl) (by simp) ?_
      refine AllReadyH.cons (o := ?o46) ?ho46 (fun K hK => ?st46) AllReadyH.nil
      case ho46 => simp only [List.getElem?_toArray, List.getElem?_cons_succ, List.getElem?_cons_zero]; rfl
      go_simp
      have hBel := (hHeld.2.2.2.2.2.2.2.2.2.2.2).alloc (Below.size (hHeld.2.2.2.2.2.2.2.2.2.2.2)) (.cells #[.string tx] 9)
      clear hHeld
      refine hK.out _ _ ?_ (fun hHeld => ?_)
      · exact HALL2.out _ hBel
      clear hK K hBel
      try simp only [Act.put, List.setIfInBounds_toArray, List.set_cons_zero, List.set_cons_succ]
      refine wpAnyH_ready (rs := [16]) (by kernel_rfl) (by simp) ?_
      refine AllReadyH.cons (o := ?o47) ?ho47 (fun K hK => ?st47) AllReadyH.nil
      case ho47 => simp only [List.getElem?_toArray, List.getElem?_cons_succ, List.getElem?_cons_zero]; rfl
      refine step_app_strsR rfl (.tmp 53) (.tmp 68) rfl W1.heap.size _ (regTxts c xs m most k) [tx] rfl (HO2.out.alloc _) _ _ 1 1 [.string tx] rfl (reads_one _ _ _) rfl rfl (by rw [regTxts_len]; simp; omega) (Below.size (hHeld.2.2.2.2.2.2.2.2.2.2.2)) ?_
      intro v9 w9 hown9 hb9
      have HO9 := Lib.hid hown9
      have hBel := (hHeld.2.2.2.2.2.2.2.2.2.2.2).trans hb9
      clear hown9 hb9 hHeld
      refine hK.out _ _ ?_ (fun hHeld => ?_)
      · exact HALL2.out _ hBel
      clear hK K hBel
      try simp only [Act.put, List.setIfInBounds_toArray, List.set_cons_zero, List.set_cons_succ]
      refine wpAnyH_take (i := 17) (oi := ?oi48) (v := ?v48) ?hi48 (by kernel_rfl) (by kernel_rfl) (by kernel_rfl) ?hq48 (Or.inl ⟨?hw48, ?hy48⟩) (by assumption) ?rest48
      case hi48 => simp only [List.getElem?_toArray, List.getElem?_cons_succ, List.getElem?_cons_zero]; rfl
      case hq48 => exact fun _ _ _ h => h
      case hw48 => kernel_rfl
      case hy48 => (intro w hSw; (try dsimp only at hSw); go_simp; try with_reducible rfl)
      try simp only [Act.put, List.setIfInBounds_toArray, List.set_cons_zero, List.set_cons_succ]
      refine wpAnyH_done (by kernel_rfl) ?_ _
      have HB9 := Lib.hid (hHeld.2.2.2.2.2.2.2.2.2.2.2)
      clear hHeld
      go_wp2_with fail
      go_roundw
      case rel => exact ⟨k + 1, by omega, by go_num, by rw [HNX.out]; exact HO9, HB9⟩
      case measure => (simp [intOf] <;> omega)
    · have hk9 : k = c.regs.toNat := by omega
      have HOE : Hid (wr.ownsRow W1.heap.size 9 1 u9 (regTxts c xs m most c.regs.toNat).length ((regTxts c xs m most c.regs.toNat).map Value.string)) := by rw [← hk9]; exact HO
      clear hk9
      obtain ⟨A2, cp2, hv, hcap, hst⟩ := strs_of_own HOE.out
      subst hv
      have HST := Lib.hid hst
      clear hst hcap
      go_wp2_with fail
      go_ret
      exact ⟨⟨_, _, rfl, HST.out⟩, HB2.out.trans (HBr.out.mono HB2.out.size)⟩
end Go.Proofs.YtipoklnoknkfhaaDoor
