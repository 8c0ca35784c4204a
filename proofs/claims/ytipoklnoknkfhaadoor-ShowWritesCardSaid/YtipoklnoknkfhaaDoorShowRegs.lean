/- show.Regs: a mutator's registers, written. -/
import Derived.Deep.RegionHeld3
import Derived.Test.YtipoklnoknkfhaaDoorShowWrite
import Derived.Test.YtipoklnoknkfhaaDoorAppStr
namespace Go.Proofs.YtipoklnoknkfhaaDoor
open Go Go.RowKit
set_option linter.unusedSimpArgs false
set_option linter.unusedVariables false

theorem step_app_strsR {ops : Array Oper} {o : Oper} {a : Act} {K : Act → World → Prop} {Q : Exit → Act → World → Prop} {E : Prop} {w : World} (hgd : o.guard = none) (s x : Operand) (ho : o.op = .call { callee := .builtin .append, args := #[s, x], argTypes := #[35, 35] })
    (B : Nat) (v : Value) (ss ts : List ByteArray) (hs : a.eval s = v) (hown : w.ownsRow B 9 1 v ss.length (ss.map Value.string))
    (R : Nat) (A : Option Addr) (m c : Nat) (news : List Value) (hx : a.eval x = .slice A m c) (hr : Reads w R 1 A m news) (hm : m = ts.length) (hnews : news = ts.map Value.string)
    (hl : ss.length + ts.length ≤ 1000) (hB : B ≤ w.heap.size)
    (h : ∀ v' w', w'.ownsRow B 9 1 v' (ss ++ ts).length ((ss ++ ts).map Value.string) → Below B w w' → K (a.put o.dst v') w') :
    if Region.wanted o (yielded ops a.tmps) = true then Oper.wp Tryd.prog o a w K Q else E := by
  obtain ⟨i0, hi0, hz0, hz1, hz2⟩ := info_str8'
  subst hm hnews
  refine step_append_any (P := Tryd.prog) _ hgd s x _ ho B 9 i0 _ 1 16 Tryd.underlying35 hi0 hz0 hz1 hz2 rfl (by omega) v ss.length (ss.map Value.string) hs hown R A ts.length c (ts.map Value.string) hx hr (by
    intro u hu
    obtain ⟨b, _, rfl⟩ := List.mem_map.1 hu
    rfl) (by unfold maxLen; omega) (by omega) hB ?_
  intro v1 w1 hown1 hg1 hat1
  refine h v1 w1 ?_ ((Below.refl _ _).grown hg1 hB (fun k hk => (hown.lt k hk).1))
  rw [List.length_append, List.map_append]
  exact hown1
/-- the texts of a mutator's registers -/
def regTxts (c : Cfg) (xs : List Int) (m most : Int) (k : Nat) : List ByteArray := (List.range k).map fun (r : Nat) => wtxt (prsOf c xs) (wd xs (5 + c.muts + c.globs + m * c.regs + (r : Int)).toNat) most
theorem regTxts_next (c : Cfg) (xs : List Int) (m most : Int) (k : Nat) : regTxts c xs m most (k + 1) = regTxts c xs m most k ++ [wtxt (prsOf c xs) (wd xs (5 + c.muts + c.globs + m * c.regs + k).toNat) most] := by simp [regTxts, List.range_succ]
theorem regTxts_len (c : Cfg) (xs : List Int) (m most : Int) (k : Nat) : (regTxts c xs m most k).length = k := by simp [regTxts]
/-- where texts lie -/
def TextsAt (ss : List ByteArray) (e : Ending) (w' : World) : Prop := ∃ A c, e = .returned (.slice A ss.length c) ∧ Strs w' w'.heap.size A ss
/-- a state's cells -/
def stCells (c : Cfg) (A : Option Addr) (n cp : Nat) (M : Option Addr) (nm cm : Nat) (t0 t1 t2 t3 t4 t5 t6 t7 t8 t9 : Value) : Array Value := #[.int .i64 c.cells, .int .i64 c.muts, .int .i64 c.regs, .int .i64 c.globs, .slice A n cp, .slice M nm cm, t0, t1, t2, t3, t4, t5, t6, t7, t8, t9]
set_option maxHeartbeats 4000000 in
set_option maxRecDepth 100000 in
theorem sregs_a (w : World) (c : Cfg) (A : Option Addr) (n cp : Nat) (M : Option Addr) (nm cm : Nat) (t0 t1 t2 t3 t4 t5 t6 t7 t8 t9 : Value) (m most : Int) (ok : ¬ c.ok = true) :
    Calls Tryd.prog 11 #[.agg (stCells c A n cp M nm cm t0 t1 t2 t3 t4 t5 t6 t7 t8 t9), .int .i64 m, .int .i64 most] w fun e w' => e = .returned (.slice none 0 0) ∧ Below w.heap.size w w' := by
  have he : Hid (c.err = 2) := by unfold Cfg.err Hid; rw [if_neg ok]
  have hm : Hid (c.map = Cfg.zero) := by unfold Cfg.map Hid; rw [if_neg ok]
  clear ok
  have HB0 : Hid (Below w.heap.size w (w.alloc (.cells (stCells c A n cp M nm cm t0 t1 t2 t3 t4 t5 t6 t7 t8 t9) 34))) := (Below.refl _ w).alloc (Nat.le_refl _) _
  have HBL : Hid ((w.alloc (.cells (stCells c A n cp M nm cm t0 t1 t2 t3 t4 t5 t6 t7 t8 t9) 34)).heap[w.heap.size]? = some (.cells (stCells c A n cp M nm cm t0 t1 t2 t3 t4 t5 t6 t7 t8 t9) 34)) := heap_alloc_new w _
  unfold stCells at *
  go_enter Tryd.func11, Tryd.ntmps11
  go_wp2_with fail
  refine (pnew_any _ c).mono ?_
  rintro e w1 ⟨rfl, hb1⟩
  rw [he.out, hm.out]
  have HB1 : Hid (Below w.heap.size w w1) := HB0.out.trans (hb1.mono (by simp))
  have hz1 := HB1.out.size
  have HBL1 := Lib.hid ((hb1.block _ (by simp)).trans HBL.out)
  clear hb1 HB0 HBL
  go_wp2_with fail
  obtain ⟨W1, hW1⟩ : ∃ W1, W1 = w1.alloc (.cells #[.int .i64 Cfg.zero.cells, .int .i64 Cfg.zero.muts, .int .i64 Cfg.zero.regs, .int .i64 Cfg.zero.globs] 88) := ⟨_, rfl⟩
  have HM1 : Hid (W1.heap[w1.heap.size]? = some Cfg.zero.mobj) := by rw [hW1]; exact heap_alloc_new w1 Cfg.zero.mobj
  have hbw : Below w1.heap.size w1 W1 := by rw [hW1]; exact (Below.refl _ w1).alloc (Nat.le_refl _) _
  have hlt1 := block_lt HBL1.out
  have HBL2 := Lib.hid ((hbw.block _ hlt1).trans HBL1.out)
  have HB2 : Hid (Below w.heap.size w W1) := HB1.out.trans (hbw.mono hz1)
  have HALL : Hid (∀ W, Below W1.heap.size W1 W → W.cell? ⟨w1.heap.size, 0, none⟩ = some (.int .i64 Cfg.zero.cells) ∧ W.cell? ⟨w1.heap.size, 1, none⟩ = some (.int .i64 Cfg.zero.muts) ∧ W.cell? ⟨w1.heap.size, 2, none⟩ = some (.int .i64 Cfg.zero.regs) ∧ W.cell? ⟨w1.heap.size, 3, none⟩ = some (.int .i64 Cfg.zero.globs) ∧ W.cell? ⟨w.heap.size, 0, none⟩ = some (.int .i64 c.cells) ∧ W.cell? ⟨w.heap.size, 1, none⟩ = some (.int .i64 c.muts) ∧ W.cell? ⟨w.heap.size, 2, none⟩ = some (.int .i64 c.regs) ∧ W.cell? ⟨w.heap.size, 3, none⟩ = some (.int .i64 c.globs) ∧ W.cell? ⟨w.heap.size, 4, none⟩ = some (.slice A n cp) ∧ W.cell? ⟨w.heap.size, 5, none⟩ = some (.slice M nm cm) ∧ Below W1.heap.size W1 W) := fun W hB => by
    obtain ⟨f0, f1, f2, f3⟩ := Cfg.mcells_at ((hB.block _ (block_lt HM1.out)).trans HM1.out)
    have hh := (hB.block _ (block_lt HBL2.out)).trans HBL2.out
    exact ⟨f0, f1, f2, f3, cell_of_block hh 0, cell_of_block hh 1, cell_of_block hh 2, cell_of_block hh 3, cell_of_block hh 4, cell_of_block hh 5, hB⟩
  rw [← hW1]
  clear hW1 hbw hlt1 HBL1
  refine wp_region_held_drew (S := (fun W => W.cell? ⟨w1.heap.size, 0, none⟩ = some (.int .i64 Cfg.zero.cells) ∧ W.cell? ⟨w1.heap.size, 1, none⟩ = some (.int .i64 Cfg.zero.muts) ∧ W.cell? ⟨w1.heap.size, 2, none⟩ = some (.int .i64 Cfg.zero.regs) ∧ W.cell? ⟨w1.heap.size, 3, none⟩ = some (.int .i64 Cfg.zero.globs) ∧ W.cell? ⟨w.heap.size, 0, none⟩ = some (.int .i64 c.cells) ∧ W.cell? ⟨w.heap.size, 1, none⟩ = some (.int .i64 c.muts) ∧ W.cell? ⟨w.heap.size, 2, none⟩ = some (.int .i64 c.regs) ∧ W.cell? ⟨w.heap.size, 3, none⟩ = some (.int .i64 c.globs) ∧ W.cell? ⟨w.heap.size, 4, none⟩ = some (.slice A n cp) ∧ W.cell? ⟨w.heap.size, 5, none⟩ = some (.slice M nm cm) ∧ Below W1.heap.size W1 W)) (by kernel_rfl) ?_ (fun hHeld => ?_)
  · exact HALL.out _ (Below.refl _ _).drew
  refine wpAnyH_take (i := 0) (oi := ?oi1) (v := ?v1) ?hi1 (by kernel_rfl) (by kernel_rfl) (by kernel_rfl) ?hq1 (Or.inl ⟨?hw1, ?hy1⟩) (by assumption) ?rest1
  case hi1 => simp only [List.getElem?_toArray, List.getElem?_cons_succ, List.getElem?_cons_zero]; rfl
  case hq1 => exact fun _ _ _ h => h
  case hw1 => kernel_rfl
  case hy1 => (intro w hSw; (try dsimp only at hSw); go_simp; try with_reducible rfl)
  try simp only [Act.put, List.setIfInBounds_toArray, List.set_cons_zero, List.set_cons_succ]
  refine wpAnyH_take (i := 1) (oi := ?oi2) (v := ?v2) ?hi2 (by kernel_rfl) (by kernel_rfl) (by kernel_rfl) ?hq2 (Or.inl ⟨?hw2, ?hy2⟩) (by assumption) ?rest2
  case hi2 => simp only [List.getElem?_toArray, List.getElem?_cons_succ, List.getElem?_cons_zero]; rfl
  case hq2 => exact fun _ _ _ h => h
  case hw2 => kernel_rfl
  case hy2 => (intro w hSw; (try dsimp only at hSw); go_simp; try with_reducible rfl)
  try simp only [Act.put, List.setIfInBounds_toArray, List.set_cons_zero, List.set_cons_succ]
  refine wpAnyH_take (i := 2) (oi := ?oi3) (v := ?v3) ?hi3 (by kernel_rfl) (by kernel_rfl) (by kernel_rfl) ?hq3 (Or.inl ⟨?hw3, ?hy3⟩) (by assumption) ?rest3
  case hi3 => simp only [List.getElem?_toArray, List.getElem?_cons_succ, List.getElem?_cons_zero]; rfl
  case hq3 => exact fun _ _ _ h => h
  case hw3 => kernel_rfl
  case hy3 => (intro w hSw; (try dsimp only at hSw); go_simp; try with_reducible rfl)
  try simp only [Act.put, List.setIfInBounds_toArray, List.set_cons_zero, List.set_cons_succ]
  refine wpAnyH_take (i := 3) (oi := ?oi4) (v := undef) ?hi4 (by kernel_rfl) (by kernel_rfl) (by kernel_rfl) ?hq4 (Or.inr ⟨?hw4, rfl⟩) (by assumption) ?rest4
  case hi4 => simp only [List.getElem?_toArray, List.getElem?_cons_succ, List.getElem?_cons_zero]; rfl
  case hq4 => exact fun _ _ _ h => h
  case hw4 => kernel_rfl
  try simp only [Act.put, List.setIfInBounds_toArray, List.set_cons_zero, List.set_cons_succ]
  refine wpAnyH_take (i := 4) (oi := ?oi5) (v := undef) ?hi5 (by kernel_rfl) (by kernel_rfl) (by kernel_rfl) ?hq5 (Or.inr ⟨?hw5, rfl⟩) (by assumption) ?rest5
  case hi5 => simp only [List.getElem?_toArray, List.getElem?_cons_succ, List.getElem?_cons_zero]; rfl
  case hq5 => exact fun _ _ _ h => h
  case hw5 => kernel_rfl
  try simp only [Act.put, List.setIfInBounds_toArray, List.set_cons_zero, List.set_cons_succ]
  refine wpAnyH_take (i := 5) (oi := ?oi6) (v := undef) ?hi6 (by kernel_rfl) (by kernel_rfl) (by kernel_rfl) ?hq6 (Or.inr ⟨?hw6, rfl⟩) (by assumption) ?rest6
  case hi6 => simp only [List.getElem?_toArray, List.getElem?_cons_succ, List.getElem?_cons_zero]; rfl
  case hq6 => exact fun _ _ _ h => h
  case hw6 => kernel_rfl
  try simp only [Act.put, List.setIfInBounds_toArray, List.set_cons_zero, List.set_cons_succ]
  refine wpAnyH_take (i := 6) (oi := ?oi7) (v := undef) ?hi7 (by kernel_rfl) (by kernel_rfl) (by kernel_rfl) ?hq7 (Or.inr ⟨?hw7, rfl⟩) (by assumption) ?rest7
  case hi7 => simp only [List.getElem?_toArray, List.getElem?_cons_succ, List.getElem?_cons_zero]; rfl
  case hq7 => exact fun _ _ _ h => h
  case hw7 => kernel_rfl
  try simp only [Act.put, List.setIfInBounds_toArray, List.set_cons_zero, List.set_cons_succ]
  refine wpAnyH_take (i := 7) (oi := ?oi8) (v := undef) ?hi8 (by kernel_rfl) (by kernel_rfl) (by kernel_rfl) ?hq8 (Or.inr ⟨?hw8, rfl⟩) (by assumption) ?rest8
  case hi8 => simp only [List.getElem?_toArray, List.getElem?_cons_succ, List.getElem?_cons_zero]; rfl
  case hq8 => exact fun _ _ _ h => h
  case hw8 => kernel_rfl
  try simp only [Act.put, List.setIfInBounds_toArray, List.set_cons_zero, List.set_cons_succ]
  refine wpAnyH_take (i := 8) (oi := ?oi9) (v := undef) ?hi9 (by kernel_rfl) (by kernel_rfl) (by kernel_rfl) ?hq9 (Or.inr ⟨?hw9, rfl⟩) (by assumption) ?rest9
  case hi9 => simp only [List.getElem?_toArray, List.getElem?_cons_succ, List.getElem?_cons_zero]; rfl
  case hq9 => exact fun _ _ _ h => h
  case hw9 => kernel_rfl
  try simp only [Act.put, List.setIfInBounds_toArray, List.set_cons_zero, List.set_cons_succ]
  refine wpAnyH_take (i := 9) (oi := ?oi10) (v := ?v10) ?hi10 (by kernel_rfl) (by kernel_rfl) (by kernel_rfl) ?hq10 (Or.inl ⟨?hw10, ?hy10⟩) (by assumption) ?rest10
  case hi10 => simp only [List.getElem?_toArray, List.getElem?_cons_succ, List.getElem?_cons_zero]; rfl
  case hq10 => exact fun _ _ _ h => h
  case hw10 => kernel_rfl
  case hy10 => (intro w hSw; (try dsimp only at hSw); go_simp; try with_reducible rfl)
  try simp only [Act.put, List.setIfInBounds_toArray, List.set_cons_zero, List.set_cons_succ]
  refine wpAnyH_take (i := 10) (oi := ?oi11) (v := ?v11) ?hi11 (by kernel_rfl) (by kernel_rfl) (by kernel_rfl) ?hq11 (Or.inl ⟨?hw11, ?hy11⟩) (by assumption) ?rest11
  case hi11 => simp only [List.getElem?_toArray, List.getElem?_cons_succ, List.getElem?_cons_zero]; rfl
  case hq11 => exact fun _ _ _ h => h
  case hw11 => kernel_rfl
  case hy11 => (intro w hSw; (try dsimp only at hSw); go_simp; try with_reducible rfl)
  try simp only [Act.put, List.setIfInBounds_toArray, List.set_cons_zero, List.set_cons_succ]
  refine wpAnyH_take (i := 11) (oi := ?oi12) (v := undef) ?hi12 (by kernel_rfl) (by kernel_rfl) (by kernel_rfl) ?hq12 (Or.inr ⟨?hw12, rfl⟩) (by assumption) ?rest12
  case hi12 => simp only [List.getElem?_toArray, List.getElem?_cons_succ, List.getElem?_cons_zero]; rfl
  case hq12 => exact fun _ _ _ h => h
  case hw12 => kernel_rfl
  try simp only [Act.put, List.setIfInBounds_toArray, List.set_cons_zero, List.set_cons_succ]
  refine wpAnyH_take (i := 12) (oi := ?oi13) (v := undef) ?hi13 (by kernel_rfl) (by kernel_rfl) (by kernel_rfl) ?hq13 (Or.inr ⟨?hw13, rfl⟩) (by assumption) ?rest13
  case hi13 => simp only [List.getElem?_toArray, List.getElem?_cons_succ, List.getElem?_cons_zero]; rfl
  case hq13 => exact fun _ _ _ h => h
  case hw13 => kernel_rfl
  try simp only [Act.put, List.setIfInBounds_toArray, List.set_cons_zero, List.set_cons_succ]
  refine wpAnyH_take (i := 13) (oi := ?oi14) (v := undef) ?hi14 (by kernel_rfl) (by kernel_rfl) (by kernel_rfl) ?hq14 (Or.inr ⟨?hw14, rfl⟩) (by assumption) ?rest14
  case hi14 => simp only [List.getElem?_toArray, List.getElem?_cons_succ, List.getElem?_cons_zero]; rfl
  case hq14 => exact fun _ _ _ h => h
  case hw14 => kernel_rfl
  try simp only [Act.put, List.setIfInBounds_toArray, List.set_cons_zero, List.set_cons_succ]
  refine wpAnyH_take (i := 14) (oi := ?oi15) (v := undef) ?hi15 (by kernel_rfl) (by kernel_rfl) (by kernel_rfl) ?hq15 (Or.inr ⟨?hw15, rfl⟩) (by assumption) ?rest15
  case hi15 => simp only [List.getElem?_toArray, List.getElem?_cons_succ, List.getElem?_cons_zero]; rfl
  case hq15 => exact fun _ _ _ h => h
  case hw15 => kernel_rfl
  try simp only [Act.put, List.setIfInBounds_toArray, List.set_cons_zero, List.set_cons_succ]
  refine wpAnyH_take (i := 15) (oi := ?oi16) (v := undef) ?hi16 (by kernel_rfl) (by kernel_rfl) (by kernel_rfl) ?hq16 (Or.inr ⟨?hw16, rfl⟩) (by assumption) ?rest16
  case hi16 => simp only [List.getElem?_toArray, List.getElem?_cons_succ, List.getElem?_cons_zero]; rfl
  case hq16 => exact fun _ _ _ h => h
  case hw16 => kernel_rfl
  try simp only [Act.put, List.setIfInBounds_toArray, List.set_cons_zero, List.set_cons_succ]
  refine wpAnyH_take (i := 16) (oi := ?oi17) (v := undef) ?hi17 (by kernel_rfl) (by kernel_rfl) (by kernel_rfl) ?hq17 (Or.inr ⟨?hw17, rfl⟩) (by assumption) ?rest17
  case hi17 => simp only [List.getElem?_toArray, List.getElem?_cons_succ, List.getElem?_cons_zero]; rfl
  case hq17 => exact fun _ _ _ h => h
  case hw17 => kernel_rfl
  try simp only [Act.put, List.setIfInBounds_toArray, List.set_cons_zero, List.set_cons_succ]
  refine wpAnyH_take (i := 17) (oi := ?oi18) (v := undef) ?hi18 (by kernel_rfl) (by kernel_rfl) (by kernel_rfl) ?hq18 (Or.inr ⟨?hw18, rfl⟩) (by assumption) ?rest18
  case hi18 => simp only [List.getElem?_toArray, List.getElem?_cons_succ, List.getElem?_cons_zero]; rfl
  case hq18 => exact fun _ _ _ h => h
  case hw18 => kernel_rfl
  try simp only [Act.put, List.setIfInBounds_toArray, List.set_cons_zero, List.set_cons_succ]
  refine wpAnyH_take (i := 18) (oi := ?oi19) (v := ?v19) ?hi19 (by kernel_rfl) (by kernel_rfl) (by kernel_rfl) ?hq19 (Or.inl ⟨?hw19, ?hy19⟩) (by assumption) ?rest19
  case hi19 => simp only [List.getElem?_toArray, List.getElem?_cons_succ, List.getElem?_cons_zero]; rfl
  case hq19 => exact fun _ _ _ h => h
  case hw19 => kernel_rfl
  case hy19 => (intro w hSw; (try dsimp only at hSw); go_simp; try with_reducible rfl)
  try simp only [Act.put, List.setIfInBounds_toArray, List.set_cons_zero, List.set_cons_succ]
  refine wpAnyH_take (i := 19) (oi := ?oi20) (v := ?v20) ?hi20 (by kernel_rfl) (by kernel_rfl) (by kernel_rfl) ?hq20 (Or.inl ⟨?hw20, ?hy20⟩) (by assumption) ?rest20
  case hi20 => simp only [List.getElem?_toArray, List.getElem?_cons_succ, List.getElem?_cons_zero]; rfl
  case hq20 => exact fun _ _ _ h => h
  case hw20 => kernel_rfl
  case hy20 => (intro w hSw; (try dsimp only at hSw); go_simp; try with_reducible rfl)
  try simp only [Act.put, List.setIfInBounds_toArray, List.set_cons_zero, List.set_cons_succ]
  refine wpAnyH_take (i := 20) (oi := ?oi21) (v := undef) ?hi21 (by kernel_rfl) (by kernel_rfl) (by kernel_rfl) ?hq21 (Or.inr ⟨?hw21, rfl⟩) (by assumption) ?rest21
  case hi21 => simp only [List.getElem?_toArray, List.getElem?_cons_succ, List.getElem?_cons_zero]; rfl
  case hq21 => exact fun _ _ _ h => h
  case hw21 => kernel_rfl
  try simp only [Act.put, List.setIfInBounds_toArray, List.set_cons_zero, List.set_cons_succ]
  refine wpAnyH_take (i := 21) (oi := ?oi22) (v := undef) ?hi22 (by kernel_rfl) (by kernel_rfl) (by kernel_rfl) ?hq22 (Or.inr ⟨?hw22, rfl⟩) (by assumption) ?rest22
  case hi22 => simp only [List.getElem?_toArray, List.getElem?_cons_succ, List.getElem?_cons_zero]; rfl
  case hq22 => exact fun _ _ _ h => h
  case hw22 => kernel_rfl
  try simp only [Act.put, List.setIfInBounds_toArray, List.set_cons_zero, List.set_cons_succ]
  refine wpAnyH_take (i := 22) (oi := ?oi23) (v := ?v23) ?hi23 (by kernel_rfl) (by kernel_rfl) (by kernel_rfl) ?hq23 (Or.inl ⟨?hw23, ?hy23⟩) (by assumption) ?rest23
  case hi23 => simp only [List.getElem?_toArray, List.getElem?_cons_succ, List.getElem?_cons_zero]; rfl
  case hq23 => exact fun _ _ _ h => h
  case hw23 => kernel_rfl
  case hy23 => (intro w hSw; (try dsimp only at hSw); go_simp; try with_reducible rfl)
  try simp only [Act.put, List.setIfInBounds_toArray, List.set_cons_zero, List.set_cons_succ]
  refine wpAnyH_take (i := 23) (oi := ?oi24) (v := ?v24) ?hi24 (by kernel_rfl) (by kernel_rfl) (by kernel_rfl) ?hq24 (Or.inl ⟨?hw24, ?hy24⟩) (by assumption) ?rest24
  case hi24 => simp only [List.getElem?_toArray, List.getElem?_cons_succ, List.getElem?_cons_zero]; rfl
  case hq24 => exact fun _ _ _ h => h
  case hw24 => kernel_rfl
  case hy24 => (intro w hSw; (try dsimp only at hSw); go_simp; try with_reducible rfl)
  try simp only [Act.put, List.setIfInBounds_toArray, List.set_cons_zero, List.set_cons_succ]
  refine wpAnyH_take (i := 24) (oi := ?oi25) (v := undef) ?hi25 (by kernel_rfl) (by kernel_rfl) (by kernel_rfl) ?hq25 (Or.inr ⟨?hw25, rfl⟩) (by assumption) ?rest25
  case hi25 => simp only [List.getElem?_toArray, List.getElem?_cons_succ, List.getElem?_cons_zero]; rfl
  case hq25 => exact fun _ _ _ h => h
  case hw25 => kernel_rfl
  try simp only [Act.put, List.setIfInBounds_toArray, List.set_cons_zero, List.set_cons_succ]
  refine wpAnyH_take (i := 25) (oi := ?oi26) (v := undef) ?hi26 (by kernel_rfl) (by kernel_rfl) (by kernel_rfl) ?hq26 (Or.inr ⟨?hw26, rfl⟩) (by assumption) ?rest26
  case hi26 => simp only [List.getElem?_toArray, List.getElem?_cons_succ, List.getElem?_cons_zero]; rfl
  case hq26 => exact fun _ _ _ h => h
  case hw26 => kernel_rfl
  try simp only [Act.put, List.setIfInBounds_toArray, List.set_cons_zero, List.set_cons_succ]
  refine wpAnyH_take (i := 26) (oi := ?oi27) (v := undef) ?hi27 (by kernel_rfl) (by kernel_rfl) (by kernel_rfl) ?hq27 (Or.inr ⟨?hw27, rfl⟩) (by assumption) ?rest27
  case hi27 => simp only [List.getElem?_toArray, List.getElem?_cons_succ, List.getElem?_cons_zero]; rfl
  case hq27 => exact fun _ _ _ h => h
  case hw27 => kernel_rfl
  try simp only [Act.put, List.setIfInBounds_toArray, List.set_cons_zero, List.set_cons_succ]
  refine wpAnyH_take (i := 27) (oi := ?oi28) (v := undef) ?hi28 (by kernel_rfl) (by kernel_rfl) (by kernel_rfl) ?hq28 (Or.inr ⟨?hw28, rfl⟩) (by assumption) ?rest28
  case hi28 => simp only [List.getElem?_toArray, List.getElem?_cons_succ, List.getElem?_cons_zero]; rfl
  case hq28 => exact fun _ _ _ h => h
  case hw28 => kernel_rfl
  try simp only [Act.put, List.setIfInBounds_toArray, List.set_cons_zero, List.set_cons_succ]
  refine wpAnyH_take (i := 28) (oi := ?oi29) (v := undef) ?hi29 (by kernel_rfl) (by kernel_rfl) (by kernel_rfl) ?hq29 (Or.inr ⟨?hw29, rfl⟩) (by assumption) ?rest29
  case hi29 => simp only [List.getElem?_toArray, List.getElem?_cons_succ, List.getElem?_cons_zero]; rfl
  case hq29 => exact fun _ _ _ h => h
  case hw29 => kernel_rfl
  try simp only [Act.put, List.setIfInBounds_toArray, List.set_cons_zero, List.set_cons_succ]
  refine wpAnyH_take (i := 29) (oi := ?oi30) (v := ?v30) ?hi30 (by kernel_rfl) (by kernel_rfl) (by kernel_rfl) ?hq30 (Or.inl ⟨?hw30, ?hy30⟩) (by assumption) ?rest30
  case hi30 => simp only [List.getElem?_toArray, List.getElem?_cons_succ, List.getElem?_cons_zero]; rfl
  case hq30 => exact fun _ _ _ h => h
  case hw30 => kernel_rfl
  case hy30 => (intro w hSw; (try dsimp only at hSw); go_simp; try with_reducible rfl)
  try simp only [Act.put, List.setIfInBounds_toArray, List.set_cons_zero, List.set_cons_succ]
  refine wpAnyH_done (by kernel_rfl) ?_ _
  go_wp2_with fail
  go_ret
  exact ⟨rfl, HB2.out.trans (Below.mono (hHeld.2.2.2.2.2.2.2.2.2.2) HB2.out.size)⟩
set_option maxHeartbeats 4000000 in
set_option maxRecDepth 100000 in
theorem sregs_b (w : World) (c : Cfg) (A : Option Addr) (n cp : Nat) (M : Option Addr) (nm cm : Nat) (t0 t1 t2 t3 t4 t5 t6 t7 t8 t9 : Value) (m most : Int) (ok : c.ok = true) (hn : ¬ (n : Int) = c.words) :
    Calls Tryd.prog 11 #[.agg (stCells c A n cp M nm cm t0 t1 t2 t3 t4 t5 t6 t7 t8 t9), .int .i64 m, .int .i64 most] w fun e w' => e = .returned (.slice none 0 0) ∧ Below w.heap.size w w' := by
  have he : Hid (c.err = 0) := by unfold Cfg.err Hid; rw [if_pos ok]
  have hm : Hid (c.map = c) := by unfold Cfg.map Hid; rw [if_pos ok]
  have tn : ((n : Int) != c.words) = true := by simpa using hn
  clear ok hn
  have HB0 : Hid (Below w.heap.size w (w.alloc (.cells (stCells c A n cp M nm cm t0 t1 t2 t3 t4 t5 t6 t7 t8 t9) 34))) := (Below.refl _ w).alloc (Nat.le_refl _) _
  have HBL : Hid ((w.alloc (.cells (stCells c A n cp M nm cm t0 t1 t2 t3 t4 t5 t6 t7 t8 t9) 34)).heap[w.heap.size]? = some (.cells (stCells c A n cp M nm cm t0 t1 t2 t3 t4 t5 t6 t7 t8 t9) 34)) := heap_alloc_new w _
  unfold stCells at *
  go_enter Tryd.func11, Tryd.ntmps11
  go_wp2_with fail
  refine (pnew_any _ c).mono ?_
  rintro e w1 ⟨rfl, hb1⟩
  rw [he.out, hm.out]
  have HB1 : Hid (Below w.heap.size w w1) := HB0.out.trans (hb1.mono (by simp))
  have hz1 := HB1.out.size
  have HBL1 := Lib.hid ((hb1.block _ (by simp)).trans HBL.out)
  clear hb1 HB0 HBL
  go_wp2_with fail
  obtain ⟨W1, hW1⟩ : ∃ W1, W1 = w1.alloc (.cells #[.int .i64 c.cells, .int .i64 c.muts, .int .i64 c.regs, .int .i64 c.globs] 88) := ⟨_, rfl⟩
  have HM1 : Hid (W1.heap[w1.heap.size]? = some c.mobj) := by rw [hW1]; exact heap_alloc_new w1 c.mobj
  have hbw : Below w1.heap.size w1 W1 := by rw [hW1]; exact (Below.refl _ w1).alloc (Nat.le_refl _) _
  have hlt1 := block_lt HBL1.out
  have HBL2 := Lib.hid ((hbw.block _ hlt1).trans HBL1.out)
  have HB2 : Hid (Below w.heap.size w W1) := HB1.out.trans (hbw.mono hz1)
  have HALL : Hid (∀ W, Below W1.heap.size W1 W → W.cell? ⟨w1.heap.size, 0, none⟩ = some (.int .i64 c.cells) ∧ W.cell? ⟨w1.heap.size, 1, none⟩ = some (.int .i64 c.muts) ∧ W.cell? ⟨w1.heap.size, 2, none⟩ = some (.int .i64 c.regs) ∧ W.cell? ⟨w1.heap.size, 3, none⟩ = some (.int .i64 c.globs) ∧ W.cell? ⟨w.heap.size, 0, none⟩ = some (.int .i64 c.cells) ∧ W.cell? ⟨w.heap.size, 1, none⟩ = some (.int .i64 c.muts) ∧ W.cell? ⟨w.heap.size, 2, none⟩ = some (.int .i64 c.regs) ∧ W.cell? ⟨w.heap.size, 3, none⟩ = some (.int .i64 c.globs) ∧ W.cell? ⟨w.heap.size, 4, none⟩ = some (.slice A n cp) ∧ W.cell? ⟨w.heap.size, 5, none⟩ = some (.slice M nm cm) ∧ Below W1.heap.size W1 W) := fun W hB => by
    obtain ⟨f0, f1, f2, f3⟩ := Cfg.mcells_at ((hB.block _ (block_lt HM1.out)).trans HM1.out)
    have hh := (hB.block _ (block_lt HBL2.out)).trans HBL2.out
    exact ⟨f0, f1, f2, f3, cell_of_block hh 0, cell_of_block hh 1, cell_of_block hh 2, cell_of_block hh 3, cell_of_block hh 4, cell_of_block hh 5, hB⟩
  rw [← hW1]
  clear hW1 hbw hlt1 HBL1
  refine wp_region_held_drew (S := (fun W => W.cell? ⟨w1.heap.size, 0, none⟩ = some (.int .i64 c.cells) ∧ W.cell? ⟨w1.heap.size, 1, none⟩ = some (.int .i64 c.muts) ∧ W.cell? ⟨w1.heap.size, 2, none⟩ = some (.int .i64 c.regs) ∧ W.cell? ⟨w1.heap.size, 3, none⟩ = some (.int .i64 c.globs) ∧ W.cell? ⟨w.heap.size, 0, none⟩ = some (.int .i64 c.cells) ∧ W.cell? ⟨w.heap.size, 1, none⟩ = some (.int .i64 c.muts) ∧ W.cell? ⟨w.heap.size, 2, none⟩ = some (.int .i64 c.regs) ∧ W.cell? ⟨w.heap.size, 3, none⟩ = some (.int .i64 c.globs) ∧ W.cell? ⟨w.heap.size, 4, none⟩ = some (.slice A n cp) ∧ W.cell? ⟨w.heap.size, 5, none⟩ = some (.slice M nm cm) ∧ Below W1.heap.size W1 W)) (by kernel_rfl) ?_ (fun hHeld => ?_)
  · exact HALL.out _ (Below.refl _ _).drew
  refine wpAnyH_take (i := 0) (oi := ?oi1) (v := ?v1) ?hi1 (by kernel_rfl) (by kernel_rfl) (by kernel_rfl) ?hq1 (Or.inl ⟨?hw1, ?hy1⟩) (by assumption) ?rest1
  case hi1 => simp only [List.getElem?_toArray, List.getElem?_cons_succ, List.getElem?_cons_zero]; rfl
  case hq1 => exact fun _ _ _ h => h
  case hw1 => kernel_rfl
  case hy1 => (intro w hSw; (try dsimp only at hSw); go_simp; try with_reducible rfl)
  try simp only [Act.put, List.setIfInBounds_toArray, List.set_cons_zero, List.set_cons_succ]
  refine wpAnyH_take (i := 1) (oi := ?oi2) (v := ?v2) ?hi2 (by kernel_rfl) (by kernel_rfl) (by kernel_rfl) ?hq2 (Or.inl ⟨?hw2, ?hy2⟩) (by assumption) ?rest2
  case hi2 => simp only [List.getElem?_toArray, List.getElem?_cons_succ, List.getElem?_cons_zero]; rfl
  case hq2 => exact fun _ _ _ h => h
  case hw2 => kernel_rfl
  case hy2 => (intro w hSw; (try dsimp only at hSw); go_simp; try with_reducible rfl)
  try simp only [Act.put, List.setIfInBounds_toArray, List.set_cons_zero, List.set_cons_succ]
  refine wpAnyH_take (i := 2) (oi := ?oi3) (v := ?v3) ?hi3 (by kernel_rfl) (by kernel_rfl) (by kernel_rfl) ?hq3 (Or.inl ⟨?hw3, ?hy3⟩) (by assumption) ?rest3
  case hi3 => simp only [List.getElem?_toArray, List.getElem?_cons_succ, List.getElem?_cons_zero]; rfl
  case hq3 => exact fun _ _ _ h => h
  case hw3 => kernel_rfl
  case hy3 => (intro w hSw; (try dsimp only at hSw); go_simp; try with_reducible rfl)
  try simp only [Act.put, List.setIfInBounds_toArray, List.set_cons_zero, List.set_cons_succ]
  refine wpAnyH_take (i := 3) (oi := ?oi4) (v := ?v4) ?hi4 (by kernel_rfl) (by kernel_rfl) (by kernel_rfl) ?hq4 (Or.inl ⟨?hw4, ?hy4⟩) (by assumption) ?rest4
  case hi4 => simp only [List.getElem?_toArray, List.getElem?_cons_succ, List.getElem?_cons_zero]; rfl
  case hq4 => exact fun _ _ _ h => h
  case hw4 => kernel_rfl
  case hy4 => (intro w hSw; (try dsimp only at hSw); go_simp; try with_reducible rfl)
  try simp only [Act.put, List.setIfInBounds_toArray, List.set_cons_zero, List.set_cons_succ]
  refine wpAnyH_take (i := 4) (oi := ?oi5) (v := ?v5) ?hi5 (by kernel_rfl) (by kernel_rfl) (by kernel_rfl) ?hq5 (Or.inl ⟨?hw5, ?hy5⟩) (by assumption) ?rest5
  case hi5 => simp only [List.getElem?_toArray, List.getElem?_cons_succ, List.getElem?_cons_zero]; rfl
  case hq5 => exact fun _ _ _ h => h
  case hw5 => kernel_rfl
  case hy5 => (intro w hSw; (try dsimp only at hSw); go_simp; try with_reducible rfl)
  try simp only [Act.put, List.setIfInBounds_toArray, List.set_cons_zero, List.set_cons_succ]
  refine wpAnyH_take (i := 5) (oi := ?oi6) (v := ?v6) ?hi6 (by kernel_rfl) (by kernel_rfl) (by kernel_rfl) ?hq6 (Or.inl ⟨?hw6, ?hy6⟩) (by assumption) ?rest6
  case hi6 => simp only [List.getElem?_toArray, List.getElem?_cons_succ, List.getElem?_cons_zero]; rfl
  case hq6 => exact fun _ _ _ h => h
  case hw6 => kernel_rfl
  case hy6 => (intro w hSw; (try dsimp only at hSw); go_simp; try with_reducible rfl)
  try simp only [Act.put, List.setIfInBounds_toArray, List.set_cons_zero, List.set_cons_succ]
  refine wpAnyH_take (i := 6) (oi := ?oi7) (v := ?v7) ?hi7 (by kernel_rfl) (by kernel_rfl) (by kernel_rfl) ?hq7 (Or.inl ⟨?hw7, ?hy7⟩) (by assumption) ?rest7
  case hi7 => simp only [List.getElem?_toArray, List.getElem?_cons_succ, List.getElem?_cons_zero]; rfl
  case hq7 => exact fun _ _ _ h => h
  case hw7 => kernel_rfl
  case hy7 => (intro w hSw; (try dsimp only at hSw); go_simp; try with_reducible rfl)
  try simp only [Act.put, List.setIfInBounds_toArray, List.set_cons_zero, List.set_cons_succ]
  refine wpAnyH_ready (rs := [7]) (by kernel_rfl) (by simp) ?_
  refine AllReadyH.cons (o := ?o8) ?ho8 (fun K hK => ?st8) AllReadyH.nil
  case ho8 => simp only [List.getElem?_toArray, List.getElem?_cons_succ, List.getElem?_cons_zero]; rfl
  go_simp
  refine (size_any _ c).mono ?_
  rintro e wq ⟨rfl, hb2⟩
  have hBel := Below.trans hHeld.2.2.2.2.2.2.2.2.2.2 (hb2.mono (Below.size hHeld.2.2.2.2.2.2.2.2.2.2))
  clear hHeld
  try go_simp
  refine hK.out _ _ ?_ (fun hHeld => ?_)
  · exact HALL.out _ hBel
  clear hK K hb2 hBel
  try simp only [Act.put, List.setIfInBounds_toArray, List.set_cons_zero, List.set_cons_succ]
  refine wpAnyH_take (i := 8) (oi := ?oi9) (v := ?v9) ?hi9 (by kernel_rfl) (by kernel_rfl) (by kernel_rfl) ?hq9 (Or.inl ⟨?hw9, ?hy9⟩) (by assumption) ?rest9
  case hi9 => simp only [List.getElem?_toArray, List.getElem?_cons_succ, List.getElem?_cons_zero]; rfl
  case hq9 => exact fun _ _ _ h => h
  case hw9 => kernel_rfl
  case hy9 => (intro w hSw; (try dsimp only at hSw); go_simp; try with_reducible rfl)
  try simp only [Act.put, List.setIfInBounds_toArray, List.set_cons_zero, List.set_cons_succ]
  refine wpAnyH_take (i := 9) (oi := ?oi10) (v := ?v10) ?hi10 (by kernel_rfl) (by kernel_rfl) (by kernel_rfl) ?hq10 (Or.inl ⟨?hw10, ?hy10⟩) (by assumption) ?rest10
  case hi10 => simp only [List.getElem?_toArray, List.getElem?_cons_succ, List.getElem?_cons_zero]; rfl
  case hq10 => exact fun _ _ _ h => h
  case hw10 => kernel_rfl
  case hy10 => (intro w hSw; (try dsimp only at hSw); go_simp; try with_reducible rfl)
  try simp only [Act.put, List.setIfInBounds_toArray, List.set_cons_zero, List.set_cons_succ]
  refine wpAnyH_take (i := 10) (oi := ?oi11) (v := ?v11) ?hi11 (by kernel_rfl) (by kernel_rfl) (by kernel_rfl) ?hq11 (Or.inl ⟨?hw11, ?hy11⟩) (by assumption) ?rest11
  case hi11 => simp only [List.getElem?_toArray, List.getElem?_cons_succ, List.getElem?_cons_zero]; rfl
  case hq11 => exact fun _ _ _ h => h
  case hw11 => kernel_rfl
  case hy11 => (intro w hSw; (try dsimp only at hSw); go_simp; try with_reducible rfl)
  try simp only [Act.put, List.setIfInBounds_toArray, List.set_cons_zero, List.set_cons_succ]
  refine wpAnyH_take (i := 11) (oi := ?oi12) (v := undef) ?hi12 (by kernel_rfl) (by kernel_rfl) (by kernel_rfl) ?hq12 (Or.inr ⟨?hw12, rfl⟩) (by assumption) ?rest12
  case hi12 => simp only [List.getElem?_toArray, List.getElem?_cons_succ, List.getElem?_cons_zero]; rfl
  case hq12 => exact fun _ _ _ h => h
  case hw12 => kernel_rfl
  try simp only [Act.put, List.setIfInBounds_toArray, List.set_cons_zero, List.set_cons_succ]
  refine wpAnyH_take (i := 12) (oi := ?oi13) (v := undef) ?hi13 (by kernel_rfl) (by kernel_rfl) (by kernel_rfl) ?hq13 (Or.inr ⟨?hw13, rfl⟩) (by assumption) ?rest13
  case hi13 => simp only [List.getElem?_toArray, List.getElem?_cons_succ, List.getElem?_cons_zero]; rfl
  case hq13 => exact fun _ _ _ h => h
  case hw13 => kernel_rfl
  try simp only [Act.put, List.setIfInBounds_toArray, List.set_cons_zero, List.set_cons_succ]
  refine wpAnyH_take (i := 13) (oi := ?oi14) (v := undef) ?hi14 (by kernel_rfl) (by kernel_rfl) (by kernel_rfl) ?hq14 (Or.inr ⟨?hw14, rfl⟩) (by assumption) ?rest14
  case hi14 => simp only [List.getElem?_toArray, List.getElem?_cons_succ, List.getElem?_cons_zero]; rfl
  case hq14 => exact fun _ _ _ h => h
  case hw14 => kernel_rfl
  try simp only [Act.put, List.setIfInBounds_toArray, List.set_cons_zero, List.set_cons_succ]
  refine wpAnyH_take (i := 14) (oi := ?oi15) (v := undef) ?hi15 (by kernel_rfl) (by kernel_rfl) (by kernel_rfl) ?hq15 (Or.inr ⟨?hw15, rfl⟩) (by assumption) ?rest15
  case hi15 => simp only [List.getElem?_toArray, List.getElem?_cons_succ, List.getElem?_cons_zero]; rfl
  case hq15 => exact fun _ _ _ h => h
  case hw15 => kernel_rfl
  try simp only [Act.put, List.setIfInBounds_toArray, List.set_cons_zero, List.set_cons_succ]
  refine wpAnyH_take (i := 15) (oi := ?oi16) (v := undef) ?hi16 (by kernel_rfl) (by kernel_rfl) (by kernel_rfl) ?hq16 (Or.inr ⟨?hw16, rfl⟩) (by assumption) ?rest16
  case hi16 => simp only [List.getElem?_toArray, List.getElem?_cons_succ, List.getElem?_cons_zero]; rfl
  case hq16 => exact fun _ _ _ h => h
  case hw16 => kernel_rfl
  try simp only [Act.put, List.setIfInBounds_toArray, List.set_cons_zero, List.set_cons_succ]
  refine wpAnyH_take (i := 16) (oi := ?oi17) (v := undef) ?hi17 (by kernel_rfl) (by kernel_rfl) (by kernel_rfl) ?hq17 (Or.inr ⟨?hw17, rfl⟩) (by assumption) ?rest17
  case hi17 => simp only [List.getElem?_toArray, List.getElem?_cons_succ, List.getElem?_cons_zero]; rfl
  case hq17 => exact fun _ _ _ h => h
  case hw17 => kernel_rfl
  try simp only [Act.put, List.setIfInBounds_toArray, List.set_cons_zero, List.set_cons_succ]
  refine wpAnyH_take (i := 17) (oi := ?oi18) (v := undef) ?hi18 (by kernel_rfl) (by kernel_rfl) (by kernel_rfl) ?hq18 (Or.inr ⟨?hw18, rfl⟩) (by assumption) ?rest18
  case hi18 => simp only [List.getElem?_toArray, List.getElem?_cons_succ, List.getElem?_cons_zero]; rfl
  case hq18 => exact fun _ _ _ h => h
  case hw18 => kernel_rfl
  try simp only [Act.put, List.setIfInBounds_toArray, List.set_cons_zero, List.set_cons_succ]
  refine wpAnyH_take (i := 18) (oi := ?oi19) (v := ?v19) ?hi19 (by kernel_rfl) (by kernel_rfl) (by kernel_rfl) ?hq19 (Or.inl ⟨?hw19, ?hy19⟩) (by assumption) ?rest19
  case hi19 => simp only [List.getElem?_toArray, List.getElem?_cons_succ, List.getElem?_cons_zero]; rfl
  case hq19 => exact fun _ _ _ h => h
  case hw19 => kernel_rfl
  case hy19 => (intro w hSw; (try dsimp only at hSw); go_simp; try with_reducible rfl)
  try simp only [Act.put, List.setIfInBounds_toArray, List.set_cons_zero, List.set_cons_succ]
  refine wpAnyH_take (i := 19) (oi := ?oi20) (v := ?v20) ?hi20 (by kernel_rfl) (by kernel_rfl) (by kernel_rfl) ?hq20 (Or.inl ⟨?hw20, ?hy20⟩) (by assumption) ?rest20
  case hi20 => simp only [List.getElem?_toArray, List.getElem?_cons_succ, List.getElem?_cons_zero]; rfl
  case hq20 => exact fun _ _ _ h => h
  case hw20 => kernel_rfl
  case hy20 => (intro w hSw; (try dsimp only at hSw); go_simp; try with_reducible rfl)
  try simp only [Act.put, List.setIfInBounds_toArray, List.set_cons_zero, List.set_cons_succ]
  refine wpAnyH_take (i := 20) (oi := ?oi21) (v := undef) ?hi21 (by kernel_rfl) (by kernel_rfl) (by kernel_rfl) ?hq21 (Or.inr ⟨?hw21, rfl⟩) (by assumption) ?rest21
  case hi21 => simp only [List.getElem?_toArray, List.getElem?_cons_succ, List.getElem?_cons_zero]; rfl
  case hq21 => exact fun _ _ _ h => h
  case hw21 => kernel_rfl
  try simp only [Act.put, List.setIfInBounds_toArray, List.set_cons_zero, List.set_cons_succ]
  refine wpAnyH_take (i := 21) (oi := ?oi22) (v := undef) ?hi22 (by kernel_rfl) (by kernel_rfl) (by kernel_rfl) ?hq22 (Or.inr ⟨?hw22, rfl⟩) (by assumption) ?rest22
  case hi22 => simp only [List.getElem?_toArray, List.getElem?_cons_succ, List.getElem?_cons_zero]; rfl
  case hq22 => exact fun _ _ _ h => h
  case hw22 => kernel_rfl
  try simp only [Act.put, List.setIfInBounds_toArray, List.set_cons_zero, List.set_cons_succ]
  refine wpAnyH_take (i := 22) (oi := ?oi23) (v := ?v23) ?hi23 (by kernel_rfl) (by kernel_rfl) (by kernel_rfl) ?hq23 (Or.inl ⟨?hw23, ?hy23⟩) (by assumption) ?rest23
  case hi23 => simp only [List.getElem?_toArray, List.getElem?_cons_succ, List.getElem?_cons_zero]; rfl
  case hq23 => exact fun _ _ _ h => h
  case hw23 => kernel_rfl
  case hy23 => (intro w hSw; (try dsimp only at hSw); go_simp; try with_reducible rfl)
  try simp only [Act.put, List.setIfInBounds_toArray, List.set_cons_zero, List.set_cons_succ]
  refine wpAnyH_take (i := 23) (oi := ?oi24) (v := ?v24) ?hi24 (by kernel_rfl) (by kernel_rfl) (by kernel_rfl) ?hq24 (Or.inl ⟨?hw24, ?hy24⟩) (by assumption) ?rest24
  case hi24 => simp only [List.getElem?_toArray, List.getElem?_cons_succ, List.getElem?_cons_zero]; rfl
  case hq24 => exact fun _ _ _ h => h
  case hw24 => kernel_rfl
  case hy24 => (intro w hSw; (try dsimp only at hSw); go_simp; try with_reducible rfl)
  try simp only [Act.put, List.setIfInBounds_toArray, List.set_cons_zero, List.set_cons_succ]
  refine wpAnyH_take (i := 24) (oi := ?oi25) (v := undef) ?hi25 (by kernel_rfl) (by kernel_rfl) (by kernel_rfl) ?hq25 (Or.inr ⟨?hw25, rfl⟩) (by assumption) ?rest25
  case hi25 => simp only [List.getElem?_toArray, List.getElem?_cons_succ, List.getElem?_cons_zero]; rfl
  case hq25 => exact fun _ _ _ h => h
  case hw25 => kernel_rfl
  try simp only [Act.put, List.setIfInBounds_toArray, List.set_cons_zero, List.set_cons_succ]
  refine wpAnyH_take (i := 25) (oi := ?oi26) (v := undef) ?hi26 (by kernel_rfl) (by kernel_rfl) (by kernel_rfl) ?hq26 (Or.inr ⟨?hw26, rfl⟩) (by assumption) ?rest26
  case hi26 => simp only [List.getElem?_toArray, List.getElem?_cons_succ, List.getElem?_cons_zero]; rfl
  case hq26 => exact fun _ _ _ h => h
  case hw26 => kernel_rfl
  try simp only [Act.put, List.setIfInBounds_toArray, List.set_cons_zero, List.set_cons_succ]
  refine wpAnyH_take (i := 26) (oi := ?oi27) (v := undef) ?hi27 (by kernel_rfl) (by kernel_rfl) (by kernel_rfl) ?hq27 (Or.inr ⟨?hw27, rfl⟩) (by assumption) ?rest27
  case hi27 => simp only [List.getElem?_toArray, List.getElem?_cons_succ, List.getElem?_cons_zero]; rfl
  case hq27 => exact fun _ _ _ h => h
  case hw27 => kernel_rfl
  try simp only [Act.put, List.setIfInBounds_toArray, List.set_cons_zero, List.set_cons_succ]
  refine wpAnyH_take (i := 27) (oi := ?oi28) (v := undef) ?hi28 (by kernel_rfl) (by kernel_rfl) (by kernel_rfl) ?hq28 (Or.inr ⟨?hw28, rfl⟩) (by assumption) ?rest28
  case hi28 => simp only [List.getElem?_toArray, List.getElem?_cons_succ, List.getElem?_cons_zero]; rfl
  case hq28 => exact fun _ _ _ h => h
  case hw28 => kernel_rfl
  try simp only [Act.put, List.setIfInBounds_toArray, List.set_cons_zero, List.set_cons_succ]
  refine wpAnyH_take (i := 28) (oi := ?oi29) (v := undef) ?hi29 (by kernel_rfl) (by kernel_rfl) (by kernel_rfl) ?hq29 (Or.inr ⟨?hw29, rfl⟩) (by assumption) ?rest29
  case hi29 => simp only [List.getElem?_toArray, List.getElem?_cons_succ, List.getElem?_cons_zero]; rfl
  case hq29 => exact fun _ _ _ h => h
  case hw29 => kernel_rfl
  try simp only [Act.put, List.setIfInBounds_toArray, List.set_cons_zero, List.set_cons_succ]
  refine wpAnyH_take (i := 29) (oi := ?oi30) (v := ?v30) ?hi30 (by kernel_rfl) (by kernel_rfl) (by kernel_rfl) ?hq30 (Or.inl ⟨?hw30, ?hy30⟩) (by assumption) ?rest30
  case hi30 => simp only [List.getElem?_toArray, List.getElem?_cons_succ, List.getElem?_cons_zero]; rfl
  case hq30 => exact fun _ _ _ h => h
  case hw30 => kernel_rfl
  case hy30 => (intro w hSw; (try dsimp only at hSw); go_simp; try with_reducible rfl)
  try simp only [Act.put, List.setIfInBounds_toArray, List.set_cons_zero, List.set_cons_succ]
  refine wpAnyH_done (by kernel_rfl) ?_ _
  go_wp2_with fail
  go_ret
  exact ⟨rfl, HB2.out.trans (Below.mono (hHeld.2.2.2.2.2.2.2.2.2.2) HB2.out.size)⟩
set_option maxHeartbeats 4000000 in
set_option maxRecDepth 100000 in
theorem sregs_c (w : World) (c : Cfg) (A : Option Addr) (n cp : Nat) (M : Option Addr) (nm cm : Nat) (t0 t1 t2 t3 t4 t5 t6 t7 t8 t9 : Value) (m most : Int) (ok : c.ok = true) (hn : (n : Int) = c.words) (hnm : (nm : Int) = c.muts) (hm0 : m < 0) :
    Calls Tryd.prog 11 #[.agg (stCells c A n cp M nm cm t0 t1 t2 t3 t4 t5 t6 t7 t8 t9), .int .i64 m, .int .i64 most] w fun e w' => e = .returned (.slice none 0 0) ∧ Below w.heap.size w w' := by
  have he : Hid (c.err = 0) := by unfold Cfg.err Hid; rw [if_pos ok]
  have hm : Hid (c.map = c) := by unfold Cfg.map Hid; rw [if_pos ok]
  have tn : ((n : Int) != c.words) = false := by rw [hn]; simp
  have tm : ((nm : Int) != c.muts) = false := by rw [hnm]; simp
  have tz : decide (m < 0) = true := by simpa using hm0
  clear ok hn hnm
  have HB0 : Hid (Below w.heap.size w (w.alloc (.cells (stCells c A n cp M nm cm t0 t1 t2 t3 t4 t5 t6 t7 t8 t9) 34))) := (Below.refl _ w).alloc (Nat.le_refl _) _
  have HBL : Hid ((w.alloc (.cells (stCells c A n cp M nm cm t0 t1 t2 t3 t4 t5 t6 t7 t8 t9) 34)).heap[w.heap.size]? = some (.cells (stCells c A n cp M nm cm t0 t1 t2 t3 t4 t5 t6 t7 t8 t9) 34)) := heap_alloc_new w _
  unfold stCells at *
  go_enter Tryd.func11, Tryd.ntmps11
  go_wp2_with fail
  refine (pnew_any _ c).mono ?_
  rintro e w1 ⟨rfl, hb1⟩
  rw [he.out, hm.out]
  have HB1 : Hid (Below w.heap.size w w1) := HB0.out.trans (hb1.mono (by simp))
  have hz1 := HB1.out.size
  have HBL1 := Lib.hid ((hb1.block _ (by simp)).trans HBL.out)
  clear hb1 HB0 HBL
  go_wp2_with fail
  obtain ⟨W1, hW1⟩ : ∃ W1, W1 = w1.alloc (.cells #[.int .i64 c.cells, .int .i64 c.muts, .int .i64 c.regs, .int .i64 c.globs] 88) := ⟨_, rfl⟩
  have HM1 : Hid (W1.heap[w1.heap.size]? = some c.mobj) := by rw [hW1]; exact heap_alloc_new w1 c.mobj
  have hbw : Below w1.heap.size w1 W1 := by rw [hW1]; exact (Below.refl _ w1).alloc (Nat.le_refl _) _
  have hlt1 := block_lt HBL1.out
  have HBL2 := Lib.hid ((hbw.block _ hlt1).trans HBL1.out)
  have HB2 : Hid (Below w.heap.size w W1) := HB1.out.trans (hbw.mono hz1)
  have HALL : Hid (∀ W, Below W1.heap.size W1 W → W.cell? ⟨w1.heap.size, 0, none⟩ = some (.int .i64 c.cells) ∧ W.cell? ⟨w1.heap.size, 1, none⟩ = some (.int .i64 c.muts) ∧ W.cell? ⟨w1.heap.size, 2, none⟩ = some (.int .i64 c.regs) ∧ W.cell? ⟨w1.heap.size, 3, none⟩ = some (.int .i64 c.globs) ∧ W.cell? ⟨w.heap.size, 0, none⟩ = some (.int .i64 c.cells) ∧ W.cell? ⟨w.heap.size, 1, none⟩ = some (.int .i64 c.muts) ∧ W.cell? ⟨w.heap.size, 2, none⟩ = some (.int .i64 c.regs) ∧ W.cell? ⟨w.heap.size, 3, none⟩ = some (.int .i64 c.globs) ∧ W.cell? ⟨w.heap.size, 4, none⟩ = some (.slice A n cp) ∧ W.cell? ⟨w.heap.size, 5, none⟩ = some (.slice M nm cm) ∧ Below W1.heap.size W1 W) := fun W hB => by
    obtain ⟨f0, f1, f2, f3⟩ := Cfg.mcells_at ((hB.block _ (block_lt HM1.out)).trans HM1.out)
    have hh := (hB.block _ (block_lt HBL2.out)).trans HBL2.out
    exact ⟨f0, f1, f2, f3, cell_of_block hh 0, cell_of_block hh 1, cell_of_block hh 2, cell_of_block hh 3, cell_of_block hh 4, cell_of_block hh 5, hB⟩
  rw [← hW1]
  clear hW1 hbw hlt1 HBL1
  refine wp_region_held_drew (S := (fun W => W.cell? ⟨w1.heap.size, 0, none⟩ = some (.int .i64 c.cells) ∧ W.cell? ⟨w1.heap.size, 1, none⟩ = some (.int .i64 c.muts) ∧ W.cell? ⟨w1.heap.size, 2, none⟩ = some (.int .i64 c.regs) ∧ W.cell? ⟨w1.heap.size, 3, none⟩ = some (.int .i64 c.globs) ∧ W.cell? ⟨w.heap.size, 0, none⟩ = some (.int .i64 c.cells) ∧ W.cell? ⟨w.heap.size, 1, none⟩ = some (.int .i64 c.muts) ∧ W.cell? ⟨w.heap.size, 2, none⟩ = some (.int .i64 c.regs) ∧ W.cell? ⟨w.heap.size, 3, none⟩ = some (.int .i64 c.globs) ∧ W.cell? ⟨w.heap.size, 4, none⟩ = some (.slice A n cp) ∧ W.cell? ⟨w.heap.size, 5, none⟩ = some (.slice M nm cm) ∧ Below W1.heap.size W1 W)) (by kernel_rfl) ?_ (fun hHeld => ?_)
  · exact HALL.out _ (Below.refl _ _).drew
  refine wpAnyH_take (i := 0) (oi := ?oi1) (v := ?v1) ?hi1 (by kernel_rfl) (by kernel_rfl) (by kernel_rfl) ?hq1 (Or.inl ⟨?hw1, ?hy1⟩) (by assumption) ?rest1
  case hi1 => simp only [List.getElem?_toArray, List.getElem?_cons_succ, List.getElem?_cons_zero]; rfl
  case hq1 => exact fun _ _ _ h => h
  case hw1 => kernel_rfl
  case hy1 => (intro w hSw; (try dsimp only at hSw); go_simp; try with_reducible rfl)
  try simp only [Act.put, List.setIfInBounds_toArray, List.set_cons_zero, List.set_cons_succ]
  refine wpAnyH_take (i := 1) (oi := ?oi2) (v := ?v2) ?hi2 (by kernel_rfl) (by kernel_rfl) (by kernel_rfl) ?hq2 (Or.inl ⟨?hw2, ?hy2⟩) (by assumption) ?rest2
  case hi2 => simp only [List.getElem?_toArray, List.getElem?_cons_succ, List.getElem?_cons_zero]; rfl
  case hq2 => exact fun _ _ _ h => h
  case hw2 => kernel_rfl
  case hy2 => (intro w hSw; (try dsimp only at hSw); go_simp; try with_reducible rfl)
  try simp only [Act.put, List.setIfInBounds_toArray, List.set_cons_zero, List.set_cons_succ]
  refine wpAnyH_take (i := 2) (oi := ?oi3) (v := ?v3) ?hi3 (by kernel_rfl) (by kernel_rfl) (by kernel_rfl) ?hq3 (Or.inl ⟨?hw3, ?hy3⟩) (by assumption) ?rest3
  case hi3 => simp only [List.getElem?_toArray, List.getElem?_cons_succ, List.getElem?_cons_zero]; rfl
  case hq3 => exact fun _ _ _ h => h
  case hw3 => kernel_rfl
  case hy3 => (intro w hSw; (try dsimp only at hSw); go_simp; try with_reducible rfl)
  try simp only [Act.put, List.setIfInBounds_toArray, List.set_cons_zero, List.set_cons_succ]
  refine wpAnyH_take (i := 3) (oi := ?oi4) (v := ?v4) ?hi4 (by kernel_rfl) (by kernel_rfl) (by kernel_rfl) ?hq4 (Or.inl ⟨?hw4, ?hy4⟩) (by assumption) ?rest4
  case hi4 => simp only [List.getElem?_toArray, List.getElem?_cons_succ, List.getElem?_cons_zero]; rfl
  case hq4 => exact fun _ _ _ h => h
  case hw4 => kernel_rfl
  case hy4 => (intro w hSw; (try dsimp only at hSw); go_simp; try with_reducible rfl)
  try simp only [Act.put, List.setIfInBounds_toArray, List.set_cons_zero, List.set_cons_succ]
  refine wpAnyH_take (i := 4) (oi := ?oi5) (v := ?v5) ?hi5 (by kernel_rfl) (by kernel_rfl) (by kernel_rfl) ?hq5 (Or.inl ⟨?hw5, ?hy5⟩) (by assumption) ?rest5
  case hi5 => simp only [List.getElem?_toArray, List.getElem?_cons_succ, List.getElem?_cons_zero]; rfl
  case hq5 => exact fun _ _ _ h => h
  case hw5 => kernel_rfl
  case hy5 => (intro w hSw; (try dsimp only at hSw); go_simp; try with_reducible rfl)
  try simp only [Act.put, List.setIfInBounds_toArray, List.set_cons_zero, List.set_cons_succ]
  refine wpAnyH_take (i := 5) (oi := ?oi6) (v := ?v6) ?hi6 (by kernel_rfl) (by kernel_rfl) (by kernel_rfl) ?hq6 (Or.inl ⟨?hw6, ?hy6⟩) (by assumption) ?rest6
  case hi6 => simp only [List.getElem?_toArray, List.getElem?_cons_succ, List.getElem?_cons_zero]; rfl
  case hq6 => exact fun _ _ _ h => h
  case hw6 => kernel_rfl
  case hy6 => (intro w hSw; (try dsimp only at hSw); go_simp; try with_reducible rfl)
  try simp only [Act.put, List.setIfInBounds_toArray, List.set_cons_zero, List.set_cons_succ]
  refine wpAnyH_take (i := 6) (oi := ?oi7) (v := ?v7) ?hi7 (by kernel_rfl) (by kernel_rfl) (by kernel_rfl) ?hq7 (Or.inl ⟨?hw7, ?hy7⟩) (by assumption) ?rest7
  case hi7 => simp only [List.getElem?_toArray, List.getElem?_cons_succ, List.getElem?_cons_zero]; rfl
  case hq7 => exact fun _ _ _ h => h
  case hw7 => kernel_rfl
  case hy7 => (intro w hSw; (try dsimp only at hSw); go_simp; try with_reducible rfl)
  try simp only [Act.put, List.setIfInBounds_toArray, List.set_cons_zero, List.set_cons_succ]
  refine wpAnyH_ready (rs := [7]) (by kernel_rfl) (by simp) ?_
  refine AllReadyH.cons (o := ?o8) ?ho8 (fun K hK => ?st8) AllReadyH.nil
  case ho8 => simp only [List.getElem?_toArray, List.getElem?_cons_succ, List.getElem?_cons_zero]; rfl
  go_simp
  refine (size_any _ c).mono ?_
  rintro e wq ⟨rfl, hb2⟩
  have hBel := Below.trans hHeld.2.2.2.2.2.2.2.2.2.2 (hb2.mono (Below.size hHeld.2.2.2.2.2.2.2.2.2.2))
  clear hHeld
  try go_simp
  refine hK.out _ _ ?_ (fun hHeld => ?_)
  · exact HALL.out _ hBel
  clear hK K hb2 hBel
  try simp only [Act.put, List.setIfInBounds_toArray, List.set_cons_zero, List.set_cons_succ]
  refine wpAnyH_take (i := 8) (oi := ?oi9) (v := ?v9) ?hi9 (by kernel_rfl) (by kernel_rfl) (by kernel_rfl) ?hq9 (Or.inl ⟨?hw9, ?hy9⟩) (by assumption) ?rest9
  case hi9 => simp only [List.getElem?_toArray, List.getElem?_cons_succ, List.getElem?_cons_zero]; rfl
  case hq9 => exact fun _ _ _ h => h
  case hw9 => kernel_rfl
  case hy9 => (intro w hSw; (try dsimp only at hSw); go_simp; try with_reducible rfl)
  try simp only [Act.put, List.setIfInBounds_toArray, List.set_cons_zero, List.set_cons_succ]
  refine wpAnyH_take (i := 9) (oi := ?oi10) (v := ?v10) ?hi10 (by kernel_rfl) (by kernel_rfl) (by kernel_rfl) ?hq10 (Or.inl ⟨?hw10, ?hy10⟩) (by assumption) ?rest10
  case hi10 => simp only [List.getElem?_toArray, List.getElem?_cons_succ, List.getElem?_cons_zero]; rfl
  case hq10 => exact fun _ _ _ h => h
  case hw10 => kernel_rfl
  case hy10 => (intro w hSw; (try dsimp only at hSw); go_simp; try with_reducible rfl)
  try simp only [Act.put, List.setIfInBounds_toArray, List.set_cons_zero, List.set_cons_succ]
  refine wpAnyH_take (i := 10) (oi := ?oi11) (v := ?v11) ?hi11 (by kernel_rfl) (by kernel_rfl) (by kernel_rfl) ?hq11 (Or.inl ⟨?hw11, ?hy11⟩) (by assumption) ?rest11
  case hi11 => simp only [List.getElem?_toArray, List.getElem?_cons_succ, List.getElem?_cons_zero]; rfl
  case hq11 => exact fun _ _ _ h => h
  case hw11 => kernel_rfl
  case hy11 => (intro w hSw; (try dsimp only at hSw); go_simp; try with_reducible rfl)
  try simp only [Act.put, List.setIfInBounds_toArray, List.set_cons_zero, List.set_cons_succ]
  refine wpAnyH_take (i := 11) (oi := ?oi12) (v := ?v12) ?hi12 (by kernel_rfl) (by kernel_rfl) (by kernel_rfl) ?hq12 (Or.inl ⟨?hw12, ?hy12⟩) (by assumption) ?rest12
  case hi12 => simp only [List.getElem?_toArray, List.getElem?_cons_succ, List.getElem?_cons_zero]; rfl
  case hq12 => exact fun _ _ _ h => h
  case hw12 => kernel_rfl
  case hy12 => (intro w hSw; (try dsimp only at hSw); go_simp; try with_reducible rfl)
  try simp only [Act.put, List.setIfInBounds_toArray, List.set_cons_zero, List.set_cons_succ]
  refine wpAnyH_take (i := 12) (oi := ?oi13) (v := ?v13) ?hi13 (by kernel_rfl) (by kernel_rfl) (by kernel_rfl) ?hq13 (Or.inl ⟨?hw13, ?hy13⟩) (by assumption) ?rest13
  case hi13 => simp only [List.getElem?_toArray, List.getElem?_cons_succ, List.getElem?_cons_zero]; rfl
  case hq13 => exact fun _ _ _ h => h
  case hw13 => kernel_rfl
  case hy13 => (intro w hSw; (try dsimp only at hSw); go_simp; try with_reducible rfl)
  try simp only [Act.put, List.setIfInBounds_toArray, List.set_cons_zero, List.set_cons_succ]
  refine wpAnyH_take (i := 13) (oi := ?oi14) (v := ?v14) ?hi14 (by kernel_rfl) (by kernel_rfl) (by kernel_rfl) ?hq14 (Or.inl ⟨?hw14, ?hy14⟩) (by assumption) ?rest14
  case hi14 => simp only [List.getElem?_toArray, List.getElem?_cons_succ, List.getElem?_cons_zero]; rfl
  case hq14 => exact fun _ _ _ h => h
  case hw14 => kernel_rfl
  case hy14 => (intro w hSw; (try dsimp only at hSw); go_simp; try with_reducible rfl)
  try simp only [Act.put, List.setIfInBounds_toArray, List.set_cons_zero, List.set_cons_succ]
  refine wpAnyH_take (i := 14) (oi := ?oi15) (v := ?v15) ?hi15 (by kernel_rfl) (by kernel_rfl) (by kernel_rfl) ?hq15 (Or.inl ⟨?hw15, ?hy15⟩) (by assumption) ?rest15
  case hi15 => simp only [List.getElem?_toArray, List.getElem?_cons_succ, List.getElem?_cons_zero]; rfl
  case hq15 => exact fun _ _ _ h => h
  case hw15 => kernel_rfl
  case hy15 => (intro w hSw; (try dsimp only at hSw); go_simp; try with_reducible rfl)
  try simp only [Act.put, List.setIfInBounds_toArray, List.set_cons_zero, List.set_cons_succ]
  refine wpAnyH_take (i := 15) (oi := ?oi16) (v := ?v16) ?hi16 (by kernel_rfl) (by kernel_rfl) (by kernel_rfl) ?hq16 (Or.inl ⟨?hw16, ?hy16⟩) (by assumption) ?rest16
  case hi16 => simp only [List.getElem?_toArray, List.getElem?_cons_succ, List.getElem?_cons_zero]; rfl
  case hq16 => exact fun _ _ _ h => h
  case hw16 => kernel_rfl
  case hy16 => (intro w hSw; (try dsimp only at hSw); go_simp; try with_reducible rfl)
  try simp only [Act.put, List.setIfInBounds_toArray, List.set_cons_zero, List.set_cons_succ]
  refine wpAnyH_take (i := 16) (oi := ?oi17) (v := ?v17) ?hi17 (by kernel_rfl) (by kernel_rfl) (by kernel_rfl) ?hq17 (Or.inl ⟨?hw17, ?hy17⟩) (by assumption) ?rest17
  case hi17 => simp only [List.getElem?_toArray, List.getElem?_cons_succ, List.getElem?_cons_zero]; rfl
  case hq17 => exact fun _ _ _ h => h
  case hw17 => kernel_rfl
  case hy17 => (intro w hSw; (try dsimp only at hSw); go_simp; try with_reducible rfl)
  try simp only [Act.put, List.setIfInBounds_toArray, List.set_cons_zero, List.set_cons_succ]
  refine wpAnyH_take (i := 17) (oi := ?oi18) (v := ?v18) ?hi18 (by kernel_rfl) (by kernel_rfl) (by kernel_rfl) ?hq18 (Or.inl ⟨?hw18, ?hy18⟩) (by assumption) ?rest18
  case hi18 => simp only [List.getElem?_toArray, List.getElem?_cons_succ, List.getElem?_cons_zero]; rfl
  case hq18 => exact fun _ _ _ h => h
  case hw18 => kernel_rfl
  case hy18 => (intro w hSw; (try dsimp only at hSw); go_simp; try with_reducible rfl)
  try simp only [Act.put, List.setIfInBounds_toArray, List.set_cons_zero, List.set_cons_succ]
  refine wpAnyH_take (i := 18) (oi := ?oi19) (v := ?v19) ?hi19 (by kernel_rfl) (by kernel_rfl) (by kernel_rfl) ?hq19 (Or.inl ⟨?hw19, ?hy19⟩) (by assumption) ?rest19
  case hi19 => simp only [List.getElem?_toArray, List.getElem?_cons_succ, List.getElem?_cons_zero]; rfl
  case hq19 => exact fun _ _ _ h => h
  case hw19 => kernel_rfl
  case hy19 => (intro w hSw; (try dsimp only at hSw); go_simp; try with_reducible rfl)
  try simp only [Act.put, List.setIfInBounds_toArray, List.set_cons_zero, List.set_cons_succ]
  refine wpAnyH_take (i := 19) (oi := ?oi20) (v := ?v20) ?hi20 (by kernel_rfl) (by kernel_rfl) (by kernel_rfl) ?hq20 (Or.inl ⟨?hw20, ?hy20⟩) (by assumption) ?rest20
  case hi20 => simp only [List.getElem?_toArray, List.getElem?_cons_succ, List.getElem?_cons_zero]; rfl
  case hq20 => exact fun _ _ _ h => h
  case hw20 => kernel_rfl
  case hy20 => (intro w hSw; (try dsimp only at hSw); go_simp; try with_reducible rfl)
  try simp only [Act.put, List.setIfInBounds_toArray, List.set_cons_zero, List.set_cons_succ]
  refine wpAnyH_take (i := 20) (oi := ?oi21) (v := ?v21) ?hi21 (by kernel_rfl) (by kernel_rfl) (by kernel_rfl) ?hq21 (Or.inl ⟨?hw21, ?hy21⟩) (by assumption) ?rest21
  case hi21 => simp only [List.getElem?_toArray, List.getElem?_cons_succ, List.getElem?_cons_zero]; rfl
  case hq21 => exact fun _ _ _ h => h
  case hw21 => kernel_rfl
  case hy21 => (intro w hSw; (try dsimp only at hSw); go_simp; try with_reducible rfl)
  try simp only [Act.put, List.setIfInBounds_toArray, List.set_cons_zero, List.set_cons_succ]
  refine wpAnyH_take (i := 21) (oi := ?oi22) (v := ?v22) ?hi22 (by kernel_rfl) (by kernel_rfl) (by kernel_rfl) ?hq22 (Or.inl ⟨?hw22, ?hy22⟩) (by assumption) ?rest22
  case hi22 => simp only [List.getElem?_toArray, List.getElem?_cons_succ, List.getElem?_cons_zero]; rfl
  case hq22 => exact fun _ _ _ h => h
  case hw22 => kernel_rfl
  case hy22 => (intro w hSw; (try dsimp only at hSw); go_simp; try with_reducible rfl)
  try simp only [Act.put, List.setIfInBounds_toArray, List.set_cons_zero, List.set_cons_succ]
  refine wpAnyH_take (i := 22) (oi := ?oi23) (v := ?v23) ?hi23 (by kernel_rfl) (by kernel_rfl) (by kernel_rfl) ?hq23 (Or.inl ⟨?hw23, ?hy23⟩) (by assumption) ?rest23
  case hi23 => simp only [List.getElem?_toArray, List.getElem?_cons_succ, List.getElem?_cons_zero]; rfl
  case hq23 => exact fun _ _ _ h => h
  case hw23 => kernel_rfl
  case hy23 => (intro w hSw; (try dsimp only at hSw); go_simp; try with_reducible rfl)
  try simp only [Act.put, List.setIfInBounds_toArray, List.set_cons_zero, List.set_cons_succ]
  refine wpAnyH_take (i := 23) (oi := ?oi24) (v := ?v24) ?hi24 (by kernel_rfl) (by kernel_rfl) (by kernel_rfl) ?hq24 (Or.inl ⟨?hw24, ?hy24⟩) (by assumption) ?rest24
  case hi24 => simp only [List.getElem?_toArray, List.getElem?_cons_succ, List.getElem?_cons_zero]; rfl
  case hq24 => exact fun _ _ _ h => h
  case hw24 => kernel_rfl
  case hy24 => (intro w hSw; (try dsimp only at hSw); go_simp; try with_reducible rfl)
  try simp only [Act.put, List.setIfInBounds_toArray, List.set_cons_zero, List.set_cons_succ]
  refine wpAnyH_take (i := 24) (oi := ?oi25) (v := undef) ?hi25 (by kernel_rfl) (by kernel_rfl) (by kernel_rfl) ?hq25 (Or.inr ⟨?hw25, rfl⟩) (by assumption) ?rest25
  case hi25 => simp only [List.getElem?_toArray, List.getElem?_cons_succ, List.getElem?_cons_zero]; rfl
  case hq25 => exact fun _ _ _ h => h
  case hw25 => kernel_rfl
  try simp only [Act.put, List.setIfInBounds_toArray, List.set_cons_zero, List.set_cons_succ]
  refine wpAnyH_take (i := 25) (oi := ?oi26) (v := undef) ?hi26 (by kernel_rfl) (by kernel_rfl) (by kernel_rfl) ?hq26 (Or.inr ⟨?hw26, rfl⟩) (by assumption) ?rest26
  case hi26 => simp only [List.getElem?_toArray, List.getElem?_cons_succ, List.getElem?_cons_zero]; rfl
  case hq26 => exact fun _ _ _ h => h
  case hw26 => kernel_rfl
  try simp only [Act.put, List.setIfInBounds_toArray, List.set_cons_zero, List.set_cons_succ]
  refine wpAnyH_take (i := 26) (oi := ?oi27) (v := undef) ?hi27 (by kernel_rfl) (by kernel_rfl) (by kernel_rfl) ?hq27 (Or.inr ⟨?hw27, rfl⟩) (by assumption) ?rest27
  case hi27 => simp only [List.getElem?_toArray, List.getElem?_cons_succ, List.getElem?_cons_zero]; rfl
  case hq27 => exact fun _ _ _ h => h
  case hw27 => kernel_rfl
  try simp only [Act.put, List.setIfInBounds_toArray, List.set_cons_zero, List.set_cons_succ]
  refine wpAnyH_take (i := 27) (oi := ?oi28) (v := undef) ?hi28 (by kernel_rfl) (by kernel_rfl) (by kernel_rfl) ?hq28 (Or.inr ⟨?hw28, rfl⟩) (by assumption) ?rest28
  case hi28 => simp only [List.getElem?_toArray, List.getElem?_cons_succ, List.getElem?_cons_zero]; rfl
  case hq28 => exact fun _ _ _ h => h
  case hw28 => kernel_rfl
  try simp only [Act.put, List.setIfInBounds_toArray, List.set_cons_zero, List.set_cons_succ]
  refine wpAnyH_take (i := 28) (oi := ?oi29) (v := undef) ?hi29 (by kernel_rfl) (by kernel_rfl) (by kernel_rfl) ?hq29 (Or.inr ⟨?hw29, rfl⟩) (by assumption) ?rest29
  case hi29 => simp only [List.getElem?_toArray, List.getElem?_cons_succ, List.getElem?_cons_zero]; rfl
  case hq29 => exact fun _ _ _ h => h
  case hw29 => kernel_rfl
  try simp only [Act.put, List.setIfInBounds_toArray, List.set_cons_zero, List.set_cons_succ]
  refine wpAnyH_take (i := 29) (oi := ?oi30) (v := ?v30) ?hi30 (by kernel_rfl) (by kernel_rfl) (by kernel_rfl) ?hq30 (Or.inl ⟨?hw30, ?hy30⟩) (by assumption) ?rest30
  case hi30 => simp only [List.getElem?_toArray, List.getElem?_cons_succ, List.getElem?_cons_zero]; rfl
  case hq30 => exact fun _ _ _ h => h
  case hw30 => kernel_rfl
  case hy30 => (intro w hSw; (try dsimp only at hSw); go_simp; try with_reducible rfl)
  try simp only [Act.put, List.setIfInBounds_toArray, List.set_cons_zero, List.set_cons_succ]
  refine wpAnyH_done (by kernel_rfl) ?_ _
  go_wp2_with fail
  go_ret
  exact ⟨rfl, HB2.out.trans (Below.mono (hHeld.2.2.2.2.2.2.2.2.2.2) HB2.out.size)⟩
set_option maxHeartbeats 4000000 in
set_option maxRecDepth 100000 in
theorem sregs_d (w : World) (c : Cfg) (A : Option Addr) (n cp : Nat) (M : Option Addr) (nm cm : Nat) (t0 t1 t2 t3 t4 t5 t6 t7 t8 t9 : Value) (m most : Int) (ok : c.ok = true) (hn : (n : Int) = c.words) (hnm : (nm : Int) = c.muts) (hm0 : 0 ≤ m) (hm1 : c.muts ≤ m) :
    Calls Tryd.prog 11 #[.agg (stCells c A n cp M nm cm t0 t1 t2 t3 t4 t5 t6 t7 t8 t9), .int .i64 m, .int .i64 most] w fun e w' => e = .returned (.slice none 0 0) ∧ Below w.heap.size w w' := by
  have he : Hid (c.err = 0) := by unfold Cfg.err Hid; rw [if_pos ok]
  have hm : Hid (c.map = c) := by unfold Cfg.map Hid; rw [if_pos ok]
  have tn : ((n : Int) != c.words) = false := by rw [hn]; simp
  have tm : ((nm : Int) != c.muts) = false := by rw [hnm]; simp
  have tz : decide (m < 0) = false := by simpa using hm0
  have tg : decide (c.muts ≤ m) = true := by simpa using hm1
  clear ok hn hnm
  have HB0 : Hid (Below w.heap.size w (w.alloc (.cells (stCells c A n cp M nm cm t0 t1 t2 t3 t4 t5 t6 t7 t8 t9) 34))) := (Below.refl _ w).alloc (Nat.le_refl _) _
  have HBL : Hid ((w.alloc (.cells (stCells c A n cp M nm cm t0 t1 t2 t3 t4 t5 t6 t7 t8 t9) 34)).heap[w.heap.size]? = some (.cells (stCells c A n cp M nm cm t0 t1 t2 t3 t4 t5 t6 t7 t8 t9) 34)) := heap_alloc_new w _
  unfold stCells at *
  go_enter Tryd.func11, Tryd.ntmps11
  go_wp2_with fail
  refine (pnew_any _ c).mono ?_
  rintro e w1 ⟨rfl, hb1⟩
  rw [he.out, hm.out]
  have HB1 : Hid (Below w.heap.size w w1) := HB0.out.trans (hb1.mono (by simp))
  have hz1 := HB1.out.size
  have HBL1 := Lib.hid ((hb1.block _ (by simp)).trans HBL.out)
  clear hb1 HB0 HBL
  go_wp2_with fail
  obtain ⟨W1, hW1⟩ : ∃ W1, W1 = w1.alloc (.cells #[.int .i64 c.cells, .int .i64 c.muts, .int .i64 c.regs, .int .i64 c.globs] 88) := ⟨_, rfl⟩
  have HM1 : Hid (W1.heap[w1.heap.size]? = some c.mobj) := by rw [hW1]; exact heap_alloc_new w1 c.mobj
  have hbw : Below w1.heap.size w1 W1 := by rw [hW1]; exact (Below.refl _ w1).alloc (Nat.le_refl _) _
  have hlt1 := block_lt HBL1.out
  have HBL2 := Lib.hid ((hbw.block _ hlt1).trans HBL1.out)
  have HB2 : Hid (Below w.heap.size w W1) := HB1.out.trans (hbw.mono hz1)
  have HALL : Hid (∀ W, Below W1.heap.size W1 W → W.cell? ⟨w1.heap.size, 0, none⟩ = some (.int .i64 c.cells) ∧ W.cell? ⟨w1.heap.size, 1, none⟩ = some (.int .i64 c.muts) ∧ W.cell? ⟨w1.heap.size, 2, none⟩ = some (.int .i64 c.regs) ∧ W.cell? ⟨w1.heap.size, 3, none⟩ = some (.int .i64 c.globs) ∧ W.cell? ⟨w.heap.size, 0, none⟩ = some (.int .i64 c.cells) ∧ W.cell? ⟨w.heap.size, 1, none⟩ = some (.int .i64 c.muts) ∧ W.cell? ⟨w.heap.size, 2, none⟩ = some (.int .i64 c.regs) ∧ W.cell? ⟨w.heap.size, 3, none⟩ = some (.int .i64 c.globs) ∧ W.cell? ⟨w.heap.size, 4, none⟩ = some (.slice A n cp) ∧ W.cell? ⟨w.heap.size, 5, none⟩ = some (.slice M nm cm) ∧ Below W1.heap.size W1 W) := fun W hB => by
    obtain ⟨f0, f1, f2, f3⟩ := Cfg.mcells_at ((hB.block _ (block_lt HM1.out)).trans HM1.out)
    have hh := (hB.block _ (block_lt HBL2.out)).trans HBL2.out
    exact ⟨f0, f1, f2, f3, cell_of_block hh 0, cell_of_block hh 1, cell_of_block hh 2, cell_of_block hh 3, cell_of_block hh 4, cell_of_block hh 5, hB⟩
  rw [← hW1]
  clear hW1 hbw hlt1 HBL1
  refine wp_region_held_drew (S := (fun W => W.cell? ⟨w1.heap.size, 0, none⟩ = some (.int .i64 c.cells) ∧ W.cell? ⟨w1.heap.size, 1, none⟩ = some (.int .i64 c.muts) ∧ W.cell? ⟨w1.heap.size, 2, none⟩ = some (.int .i64 c.regs) ∧ W.cell? ⟨w1.heap.size, 3, none⟩ = some (.int .i64 c.globs) ∧ W.cell? ⟨w.heap.size, 0, none⟩ = some (.int .i64 c.cells) ∧ W.cell? ⟨w.heap.size, 1, none⟩ = some (.int .i64 c.muts) ∧ W.cell? ⟨w.heap.size, 2, none⟩ = some (.int .i64 c.regs) ∧ W.cell? ⟨w.heap.size, 3, none⟩ = some (.int .i64 c.globs) ∧ W.cell? ⟨w.heap.size, 4, none⟩ = some (.slice A n cp) ∧ W.cell? ⟨w.heap.size, 5, none⟩ = some (.slice M nm cm) ∧ Below W1.heap.size W1 W)) (by kernel_rfl) ?_ (fun hHeld => ?_)
  · exact HALL.out _ (Below.refl _ _).drew
  refine wpAnyH_take (i := 0) (oi := ?oi1) (v := ?v1) ?hi1 (by kernel_rfl) (by kernel_rfl) (by kernel_rfl) ?hq1 (Or.inl ⟨?hw1, ?hy1⟩) (by assumption) ?rest1
  case hi1 => simp only [List.getElem?_toArray, List.getElem?_cons_succ, List.getElem?_cons_zero]; rfl
  case hq1 => exact fun _ _ _ h => h
  case hw1 => kernel_rfl
  case hy1 => (intro w hSw; (try dsimp only at hSw); go_simp; try with_reducible rfl)
  try simp only [Act.put, List.setIfInBounds_toArray, List.set_cons_zero, List.set_cons_succ]
  refine wpAnyH_take (i := 1) (oi := ?oi2) (v := ?v2) ?hi2 (by kernel_rfl) (by kernel_rfl) (by kernel_rfl) ?hq2 (Or.inl ⟨?hw2, ?hy2⟩) (by assumption) ?rest2
  case hi2 => simp only [List.getElem?_toArray, List.getElem?_cons_succ, List.getElem?_cons_zero]; rfl
  case hq2 => exact fun _ _ _ h => h
  case hw2 => kernel_rfl
  case hy2 => (intro w hSw; (try dsimp only at hSw); go_simp; try with_reducible rfl)
  try simp only [Act.put, List.setIfInBounds_toArray, List.set_cons_zero, List.set_cons_succ]
  refine wpAnyH_take (i := 2) (oi := ?oi3) (v := ?v3) ?hi3 (by kernel_rfl) (by kernel_rfl) (by kernel_rfl) ?hq3 (Or.inl ⟨?hw3, ?hy3⟩) (by assumption) ?rest3
  case hi3 => simp only [List.getElem?_toArray, List.getElem?_cons_succ, List.getElem?_cons_zero]; rfl
  case hq3 => exact fun _ _ _ h => h
  case hw3 => kernel_rfl
  case hy3 => (intro w hSw; (try dsimp only at hSw); go_simp; try with_reducible rfl)
  try simp only [Act.put, List.setIfInBounds_toArray, List.set_cons_zero, List.set_cons_succ]
  refine wpAnyH_take (i := 3) (oi := ?oi4) (v := ?v4) ?hi4 (by kernel_rfl) (by kernel_rfl) (by kernel_rfl) ?hq4 (Or.inl ⟨?hw4, ?hy4⟩) (by assumption) ?rest4
  case hi4 => simp only [List.getElem?_toArray, List.getElem?_cons_succ, List.getElem?_cons_zero]; rfl
  case hq4 => exact fun _ _ _ h => h
  case hw4 => kernel_rfl
  case hy4 => (intro w hSw; (try dsimp only at hSw); go_simp; try with_reducible rfl)
  try simp only [Act.put, List.setIfInBounds_toArray, List.set_cons_zero, List.set_cons_succ]
  refine wpAnyH_take (i := 4) (oi := ?oi5) (v := ?v5) ?hi5 (by kernel_rfl) (by kernel_rfl) (by kernel_rfl) ?hq5 (Or.inl ⟨?hw5, ?hy5⟩) (by assumption) ?rest5
  case hi5 => simp only [List.getElem?_toArray, List.getElem?_cons_succ, List.getElem?_cons_zero]; rfl
  case hq5 => exact fun _ _ _ h => h
  case hw5 => kernel_rfl
  case hy5 => (intro w hSw; (try dsimp only at hSw); go_simp; try with_reducible rfl)
  try simp only [Act.put, List.setIfInBounds_toArray, List.set_cons_zero, List.set_cons_succ]
  refine wpAnyH_take (i := 5) (oi := ?oi6) (v := ?v6) ?hi6 (by kernel_rfl) (by kernel_rfl) (by kernel_rfl) ?hq6 (Or.inl ⟨?hw6, ?hy6⟩) (by assumption) ?rest6
  case hi6 => simp only [List.getElem?_toArray, List.getElem?_cons_succ, List.getElem?_cons_zero]; rfl
  case hq6 => exact fun _ _ _ h => h
  case hw6 => kernel_rfl
  case hy6 => (intro w hSw; (try dsimp only at hSw); go_simp; try with_reducible rfl)
  try simp only [Act.put, List.setIfInBounds_toArray, List.set_cons_zero, List.set_cons_succ]
  refine wpAnyH_take (i := 6) (oi := ?oi7) (v := ?v7) ?hi7 (by kernel_rfl) (by kernel_rfl) (by kernel_rfl) ?hq7 (Or.inl ⟨?hw7, ?hy7⟩) (by assumption) ?rest7
  case hi7 => simp only [List.getElem?_toArray, List.getElem?_cons_succ, List.getElem?_cons_zero]; rfl
  case hq7 => exact fun _ _ _ h => h
  case hw7 => kernel_rfl
  case hy7 => (intro w hSw; (try dsimp only at hSw); go_simp; try with_reducible rfl)
  try simp only [Act.put, List.setIfInBounds_toArray, List.set_cons_zero, List.set_cons_succ]
  refine wpAnyH_ready (rs := [7]) (by kernel_rfl) (by simp) ?_
  refine AllReadyH.cons (o := ?o8) ?ho8 (fun K hK => ?st8) AllReadyH.nil
  case ho8 => simp only [List.getElem?_toArray, List.getElem?_cons_succ, List.getElem?_cons_zero]; rfl
  go_simp
  refine (size_any _ c).mono ?_
  rintro e wq ⟨rfl, hb2⟩
  have hBel := Below.trans hHeld.2.2.2.2.2.2.2.2.2.2 (hb2.mono (Below.size hHeld.2.2.2.2.2.2.2.2.2.2))
  clear hHeld
  try go_simp
  refine hK.out _ _ ?_ (fun hHeld => ?_)
  · exact HALL.out _ hBel
  clear hK K hb2 hBel
  try simp only [Act.put, List.setIfInBounds_toArray, List.set_cons_zero, List.set_cons_succ]
  refine wpAnyH_take (i := 8) (oi := ?oi9) (v := ?v9) ?hi9 (by kernel_rfl) (by kernel_rfl) (by kernel_rfl) ?hq9 (Or.inl ⟨?hw9, ?hy9⟩) (by assumption) ?rest9
  case hi9 => simp only [List.getElem?_toArray, List.getElem?_cons_succ, List.getElem?_cons_zero]; rfl
  case hq9 => exact fun _ _ _ h => h
  case hw9 => kernel_rfl
  case hy9 => (intro w hSw; (try dsimp only at hSw); go_simp; try with_reducible rfl)
  try simp only [Act.put, List.setIfInBounds_toArray, List.set_cons_zero, List.set_cons_succ]
  refine wpAnyH_take (i := 9) (oi := ?oi10) (v := ?v10) ?hi10 (by kernel_rfl) (by kernel_rfl) (by kernel_rfl) ?hq10 (Or.inl ⟨?hw10, ?hy10⟩) (by assumption) ?rest10
  case hi10 => simp only [List.getElem?_toArray, List.getElem?_cons_succ, List.getElem?_cons_zero]; rfl
  case hq10 => exact fun _ _ _ h => h
  case hw10 => kernel_rfl
  case hy10 => (intro w hSw; (try dsimp only at hSw); go_simp; try with_reducible rfl)
  try simp only [Act.put, List.setIfInBounds_toArray, List.set_cons_zero, List.set_cons_succ]
  refine wpAnyH_take (i := 10) (oi := ?oi11) (v := ?v11) ?hi11 (by kernel_rfl) (by kernel_rfl) (by kernel_rfl) ?hq11 (Or.inl ⟨?hw11, ?hy11⟩) (by assumption) ?rest11
  case hi11 => simp only [List.getElem?_toArray, List.getElem?_cons_succ, List.getElem?_cons_zero]; rfl
  case hq11 => exact fun _ _ _ h => h
  case hw11 => kernel_rfl
  case hy11 => (intro w hSw; (try dsimp only at hSw); go_simp; try with_reducible rfl)
  try simp only [Act.put, List.setIfInBounds_toArray, List.set_cons_zero, List.set_cons_succ]
  refine wpAnyH_take (i := 11) (oi := ?oi12) (v := ?v12) ?hi12 (by kernel_rfl) (by kernel_rfl) (by kernel_rfl) ?hq12 (Or.inl ⟨?hw12, ?hy12⟩) (by assumption) ?rest12
  case hi12 => simp only [List.getElem?_toArray, List.getElem?_cons_succ, List.getElem?_cons_zero]; rfl
  case hq12 => exact fun _ _ _ h => h
  case hw12 => kernel_rfl
  case hy12 => (intro w hSw; (try dsimp only at hSw); go_simp; try with_reducible rfl)
  try simp only [Act.put, List.setIfInBounds_toArray, List.set_cons_zero, List.set_cons_succ]
  refine wpAnyH_take (i := 12) (oi := ?oi13) (v := ?v13) ?hi13 (by kernel_rfl) (by kernel_rfl) (by kernel_rfl) ?hq13 (Or.inl ⟨?hw13, ?hy13⟩) (by assumption) ?rest13
  case hi13 => simp only [List.getElem?_toArray, List.getElem?_cons_succ, List.getElem?_cons_zero]; rfl
  case hq13 => exact fun _ _ _ h => h
  case hw13 => kernel_rfl
  case hy13 => (intro w hSw; (try dsimp only at hSw); go_simp; try with_reducible rfl)
  try simp only [Act.put, List.setIfInBounds_toArray, List.set_cons_zero, List.set_cons_succ]
  refine wpAnyH_take (i := 13) (oi := ?oi14) (v := ?v14) ?hi14 (by kernel_rfl) (by kernel_rfl) (by kernel_rfl) ?hq14 (Or.inl ⟨?hw14, ?hy14⟩) (by assumption) ?rest14
  case hi14 => simp only [List.getElem?_toArray, List.getElem?_cons_succ, List.getElem?_cons_zero]; rfl
  case hq14 => exact fun _ _ _ h => h
  case hw14 => kernel_rfl
  case hy14 => (intro w hSw; (try dsimp only at hSw); go_simp; try with_reducible rfl)
  try simp only [Act.put, List.setIfInBounds_toArray, List.set_cons_zero, List.set_cons_succ]
  refine wpAnyH_take (i := 14) (oi := ?oi15) (v := ?v15) ?hi15 (by kernel_rfl) (by kernel_rfl) (by kernel_rfl) ?hq15 (Or.inl ⟨?hw15, ?hy15⟩) (by assumption) ?rest15
  case hi15 => simp only [List.getElem?_toArray, List.getElem?_cons_succ, List.getElem?_cons_zero]; rfl
  case hq15 => exact fun _ _ _ h => h
  case hw15 => kernel_rfl
  case hy15 => (intro w hSw; (try dsimp only at hSw); go_simp; try with_reducible rfl)
  try simp only [Act.put, List.setIfInBounds_toArray, List.set_cons_zero, List.set_cons_succ]
  refine wpAnyH_take (i := 15) (oi := ?oi16) (v := ?v16) ?hi16 (by kernel_rfl) (by kernel_rfl) (by kernel_rfl) ?hq16 (Or.inl ⟨?hw16, ?hy16⟩) (by assumption) ?rest16
  case hi16 => simp only [List.getElem?_toArray, List.getElem?_cons_succ, List.getElem?_cons_zero]; rfl
  case hq16 => exact fun _ _ _ h => h
  case hw16 => kernel_rfl
  case hy16 => (intro w hSw; (try dsimp only at hSw); go_simp; try with_reducible rfl)
  try simp only [Act.put, List.setIfInBounds_toArray, List.set_cons_zero, List.set_cons_succ]
  refine wpAnyH_take (i := 16) (oi := ?oi17) (v := ?v17) ?hi17 (by kernel_rfl) (by kernel_rfl) (by kernel_rfl) ?hq17 (Or.inl ⟨?hw17, ?hy17⟩) (by assumption) ?rest17
  case hi17 => simp only [List.getElem?_toArray, List.getElem?_cons_succ, List.getElem?_cons_zero]; rfl
  case hq17 => exact fun _ _ _ h => h
  case hw17 => kernel_rfl
  case hy17 => (intro w hSw; (try dsimp only at hSw); go_simp; try with_reducible rfl)
  try simp only [Act.put, List.setIfInBounds_toArray, List.set_cons_zero, List.set_cons_succ]
  refine wpAnyH_take (i := 17) (oi := ?oi18) (v := ?v18) ?hi18 (by kernel_rfl) (by kernel_rfl) (by kernel_rfl) ?hq18 (Or.inl ⟨?hw18, ?hy18⟩) (by assumption) ?rest18
  case hi18 => simp only [List.getElem?_toArray, List.getElem?_cons_succ, List.getElem?_cons_zero]; rfl
  case hq18 => exact fun _ _ _ h => h
  case hw18 => kernel_rfl
  case hy18 => (intro w hSw; (try dsimp only at hSw); go_simp; try with_reducible rfl)
  try simp only [Act.put, List.setIfInBounds_toArray, List.set_cons_zero, List.set_cons_succ]
  refine wpAnyH_take (i := 18) (oi := ?oi19) (v := ?v19) ?hi19 (by kernel_rfl) (by kernel_rfl) (by kernel_rfl) ?hq19 (Or.inl ⟨?hw19, ?hy19⟩) (by assumption) ?rest19
  case hi19 => simp only [List.getElem?_toArray, List.getElem?_cons_succ, List.getElem?_cons_zero]; rfl
  case hq19 => exact fun _ _ _ h => h
  case hw19 => kernel_rfl
  case hy19 => (intro w hSw; (try dsimp only at hSw); go_simp; try with_reducible rfl)
  try simp only [Act.put, List.setIfInBounds_toArray, List.set_cons_zero, List.set_cons_succ]
  refine wpAnyH_take (i := 19) (oi := ?oi20) (v := ?v20) ?hi20 (by kernel_rfl) (by kernel_rfl) (by kernel_rfl) ?hq20 (Or.inl ⟨?hw20, ?hy20⟩) (by assumption) ?rest20
  case hi20 => simp only [List.getElem?_toArray, List.getElem?_cons_succ, List.getElem?_cons_zero]; rfl
  case hq20 => exact fun _ _ _ h => h
  case hw20 => kernel_rfl
  case hy20 => (intro w hSw; (try dsimp only at hSw); go_simp; try with_reducible rfl)
  try simp only [Act.put, List.setIfInBounds_toArray, List.set_cons_zero, List.set_cons_succ]
  refine wpAnyH_take (i := 20) (oi := ?oi21) (v := ?v21) ?hi21 (by kernel_rfl) (by kernel_rfl) (by kernel_rfl) ?hq21 (Or.inl ⟨?hw21, ?hy21⟩) (by assumption) ?rest21
  case hi21 => simp only [List.getElem?_toArray, List.getElem?_cons_succ, List.getElem?_cons_zero]; rfl
  case hq21 => exact fun _ _ _ h => h
  case hw21 => kernel_rfl
  case hy21 => (intro w hSw; (try dsimp only at hSw); go_simp; try with_reducible rfl)
  try simp only [Act.put, List.setIfInBounds_toArray, List.set_cons_zero, List.set_cons_succ]
  refine wpAnyH_take (i := 21) (oi := ?oi22) (v := ?v22) ?hi22 (by kernel_rfl) (by kernel_rfl) (by kernel_rfl) ?hq22 (Or.inl ⟨?hw22, ?hy22⟩) (by assumption) ?rest22
  case hi22 => simp only [List.getElem?_toArray, List.getElem?_cons_succ, List.getElem?_cons_zero]; rfl
  case hq22 => exact fun _ _ _ h => h
  case hw22 => kernel_rfl
  case hy22 => (intro w hSw; (try dsimp only at hSw); go_simp; try with_reducible rfl)
  try simp only [Act.put, List.setIfInBounds_toArray, List.set_cons_zero, List.set_cons_succ]
  refine wpAnyH_take (i := 22) (oi := ?oi23) (v := ?v23) ?hi23 (by kernel_rfl) (by kernel_rfl) (by kernel_rfl) ?hq23 (Or.inl ⟨?hw23, ?hy23⟩) (by assumption) ?rest23
  case hi23 => simp only [List.getElem?_toArray, List.getElem?_cons_succ, List.getElem?_cons_zero]; rfl
  case hq23 => exact fun _ _ _ h => h
  case hw23 => kernel_rfl
  case hy23 => (intro w hSw; (try dsimp only at hSw); go_simp; try with_reducible rfl)
  try simp only [Act.put, List.setIfInBounds_toArray, List.set_cons_zero, List.set_cons_succ]
  refine wpAnyH_take (i := 23) (oi := ?oi24) (v := ?v24) ?hi24 (by kernel_rfl) (by kernel_rfl) (by kernel_rfl) ?hq24 (Or.inl ⟨?hw24, ?hy24⟩) (by assumption) ?rest24
  case hi24 => simp only [List.getElem?_toArray, List.getElem?_cons_succ, List.getElem?_cons_zero]; rfl
  case hq24 => exact fun _ _ _ h => h
  case hw24 => kernel_rfl
  case hy24 => (intro w hSw; (try dsimp only at hSw); go_simp; try with_reducible rfl)
  try simp only [Act.put, List.setIfInBounds_toArray, List.set_cons_zero, List.set_cons_succ]
  refine wpAnyH_take (i := 24) (oi := ?oi25) (v := ?v25) ?hi25 (by kernel_rfl) (by kernel_rfl) (by kernel_rfl) ?hq25 (Or.inl ⟨?hw25, ?hy25⟩) (by assumption) ?rest25
  case hi25 => simp only [List.getElem?_toArray, List.getElem?_cons_succ, List.getElem?_cons_zero]; rfl
  case hq25 => exact fun _ _ _ h => h
  case hw25 => kernel_rfl
  case hy25 => (intro w hSw; (try dsimp only at hSw); go_simp; try with_reducible rfl)
  try simp only [Act.put, List.setIfInBounds_toArray, List.set_cons_zero, List.set_cons_succ]
  refine wpAnyH_take (i := 25) (oi := ?oi26) (v := ?v26) ?hi26 (by kernel_rfl) (by kernel_rfl) (by kernel_rfl) ?hq26 (Or.inl ⟨?hw26, ?hy26⟩) (by assumption) ?rest26
  case hi26 => simp only [List.getElem?_toArray, List.getElem?_cons_succ, List.getElem?_cons_zero]; rfl
  case hq26 => exact fun _ _ _ h => h
  case hw26 => kernel_rfl
  case hy26 => (intro w hSw; (try dsimp only at hSw); go_simp; try with_reducible rfl)
  try simp only [Act.put, List.setIfInBounds_toArray, List.set_cons_zero, List.set_cons_succ]
  refine wpAnyH_take (i := 26) (oi := ?oi27) (v := ?v27) ?hi27 (by kernel_rfl) (by kernel_rfl) (by kernel_rfl) ?hq27 (Or.inl ⟨?hw27, ?hy27⟩) (by assumption) ?rest27
  case hi27 => simp only [List.getElem?_toArray, List.getElem?_cons_succ, List.getElem?_cons_zero]; rfl
  case hq27 => exact fun _ _ _ h => h
  case hw27 => kernel_rfl
  case hy27 => (intro w hSw; (try dsimp only at hSw); go_simp; try with_reducible rfl)
  try simp only [Act.put, List.setIfInBounds_toArray, List.set_cons_zero, List.set_cons_succ]
  refine wpAnyH_take (i := 27) (oi := ?oi28) (v := ?v28) ?hi28 (by kernel_rfl) (by kernel_rfl) (by kernel_rfl) ?hq28 (Or.inl ⟨?hw28, ?hy28⟩) (by assumption) ?rest28
  case hi28 => simp only [List.getElem?_toArray, List.getElem?_cons_succ, List.getElem?_cons_zero]; rfl
  case hq28 => exact fun _ _ _ h => h
  case hw28 => kernel_rfl
  case hy28 => (intro w hSw; (try dsimp only at hSw); go_simp; try with_reducible rfl)
  try simp only [Act.put, List.setIfInBounds_toArray, List.set_cons_zero, List.set_cons_succ]
  refine wpAnyH_take (i := 28) (oi := ?oi29) (v := ?v29) ?hi29 (by kernel_rfl) (by kernel_rfl) (by kernel_rfl) ?hq29 (Or.inl ⟨?hw29, ?hy29⟩) (by assumption) ?rest29
  case hi29 => simp only [List.getElem?_toArray, List.getElem?_cons_succ, List.getElem?_cons_zero]; rfl
  case hq29 => exact fun _ _ _ h => h
  case hw29 => kernel_rfl
  case hy29 => (intro w hSw; (try dsimp only at hSw); go_simp; try with_reducible rfl)
  try simp only [Act.put, List.setIfInBounds_toArray, List.set_cons_zero, List.set_cons_succ]
  refine wpAnyH_take (i := 29) (oi := ?oi30) (v := ?v30) ?hi30 (by kernel_rfl) (by kernel_rfl) (by kernel_rfl) ?hq30 (Or.inl ⟨?hw30, ?hy30⟩) (by assumption) ?rest30
  case hi30 => simp only [List.getElem?_toArray, List.getElem?_cons_succ, List.getElem?_cons_zero]; rfl
  case hq30 => exact fun _ _ _ h => h
  case hw30 => kernel_rfl
  case hy30 => (intro w hSw; (try dsimp only at hSw); go_simp; try with_reducible rfl)
  try simp only [Act.put, List.setIfInBounds_toArray, List.set_cons_zero, List.set_cons_succ]
  refine wpAnyH_done (by kernel_rfl) ?_ _
  go_wp2_with fail
  go_ret
  exact ⟨rfl, HB2.out.trans (Below.mono (hHeld.2.2.2.2.2.2.2.2.2.2) HB2.out.size)⟩
end Go.Proofs.YtipoklnoknkfhaaDoor
