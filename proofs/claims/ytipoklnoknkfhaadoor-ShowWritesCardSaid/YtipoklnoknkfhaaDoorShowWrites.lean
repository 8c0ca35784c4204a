/- Any word over any memory, and all registers of any state, are written as the document says: the walk. -/
import Derived.Test.YtipoklnoknkfhaaDoorShowAwake
import Derived.Test.YtipoklnoknkfhaaDoorShowRegsOk
import Derived.Test.YtipoklnoknkfhaaDoorRef29Mem
import Derived.Test.YtipoklnoknkfhaaDoorRefTexts
namespace Go.Proofs.YtipoklnoknkfhaaDoor
open Go Go.RowKit
set_option linter.unusedSimpArgs false
set_option linter.unusedVariables false

set_option maxHeartbeats 4000000 in
set_option maxRecDepth 100000 in
theorem swrites_far (w : World) (c : Cfg) (A : Option Addr) (xs : List Int) (cp : Nat) (x m most : Int) (ht : Tens w) (hfar : c.great = true ∨ 400 < xs.length ∨ 60 < most) :
    Calls Tryd.prog 3 #[c.v, .slice A xs.length cp, .int .u64 x, .int .i64 m, .int .i64 most] w fun e w' => e = .returned (.bool true) ∧ Below w.heap.size w w' := by
  have HAW := Lib.hid (show_awake _ (ht.below (Nat.le_refl _) ((Below.refl w.heap.size w).alloc (Nat.le_refl _) c.obj)))
  have hb0 : Below w.heap.size w (w.alloc c.obj) := (Below.refl _ w).alloc (Nat.le_refl _) _
  have HB0 := Lib.hid hb0
  have HBL := Lib.hid (heap_alloc_new w c.obj)
  have HFAR := Lib.hid hfar
  clear ht hb0 hfar
  go_enter Tryd.func3, Tryd.ntmps3
  go_wp2_with fail
  refine HAW.out.mono ?_
  rintro e w1 ⟨rfl, hb1⟩
  have HB1 : Hid (Below w.heap.size w w1) := HB0.out.trans (hb1.mono (by simp))
  obtain ⟨q0, q1, q2, q3⟩ := Cfg.cells_at ((hb1.block w.heap.size (by simp)).trans HBL.out)
  clear hb1 HAW HBL HB0
  go_wp2_with fail
  refine (sgreat_any _ c).mono ?_
  rintro e w2 ⟨rfl, hb2⟩
  have HB2 : Hid (Below w.heap.size w w2) := HB1.out.trans (hb2.mono HB1.out.size)
  clear hb2 HB1
  by_cases h1 : c.great = true
  · simp only [h1]
    go_wp2_with fail
    go_ret
    exact ⟨rfl, HB2.out⟩
  have h1' : c.great = false := by simpa using h1
  simp only [h1']
  have HFAR2 : Hid (400 < xs.length ∨ 60 < most) := HFAR.out.resolve_left h1
  clear h1 h1' HFAR
  by_cases h2 : 400 < xs.length
  · have d2 : decide ((400 : Int) < xs.length) = true := by simp; omega
    go_wp2_with fail
    go_ret
    exact ⟨rfl, HB2.out⟩
  · have d2 : decide ((400 : Int) < xs.length) = false := by simp; omega
    have d3 : decide (60 < most) = true := by
      have := HFAR2.out
      simp
      omega
    go_wp2_with fail
    go_ret
    exact ⟨rfl, HB2.out⟩
theorem info_mut29 : (Tryd.prog.info? 272).map (fun i => (i.size, i.bytes, i.zero.isSome)) = some (13, 104, true) := by kernel_rfl
theorem make_muts (n : Nat) (hn : n ≤ 100) : ∃ o : Obj, ∀ w : World, (Instr.makeSlice 29 (.int .i64 (n : Int)) (.int .i64 (n : Int))).run Tryd.prog w = .ok (.slice (some ⟨w.heap.size, 0, none⟩) n n) (w.alloc o) := by
  obtain ⟨i, hi, e⟩ := Option.map_eq_some_iff.1 info_mut29
  simp only [Prod.mk.injEq] at e
  obtain ⟨e1, e2, e3⟩ := e
  obtain ⟨z, hz⟩ := Option.isSome_iff_exists.1 e3
  exact ⟨_, fun w => run_make_rowN (P := Tryd.prog) 29 272 i z Tryd.underlying29 hi hz .i64 .i64 n n (Nat.le_refl _) (by rw [e2]; omega) (by omega) w⟩
def rightM (c : Cfg) (n : Nat) : Bool := c.ok && decide ((n : Int) = c.words)
def gotT (c : Cfg) (xs : List Int) (m most : Int) : List ByteArray := if rightM c xs.length = true ∧ 0 ≤ m ∧ m < c.muts then regTxts c xs m most c.regs.toNat else []
theorem strs_more29 {w : World} {B B' : Nat} {A : Option Addr} {ss : List ByteArray} (h : Strs w B A ss) (hB : B ≤ B') : Strs w B' A ss := ⟨fun hp => by
  obtain ⟨ad, e, hb, hc⟩ := h.at_ hp
  exact ⟨ad, e, Nat.lt_of_lt_of_le hb hB, hc⟩⟩
theorem strs_nil29 (w : World) (B : Nat) (A : Option Addr) : Strs w B A [] := ⟨fun h => absurd h (by simp)⟩
theorem sregs_any (w : World) (B : Nat) (c : Cfg) (A : Option Addr) (xs : List Int) (cp : Nat) (M : Option Addr) (nm cm : Nat) (t0 t1 t2 t3 t4 t5 t6 t7 t8 t9 : Value) (m most : Int) (hB : B ≤ w.heap.size) (hxs : Words w B A xs) (hw : ∀ y ∈ xs, wok y) (ht : Tens w) (hnm : c.ok = true → (nm : Int) = c.muts) :
    Calls Tryd.prog 11 #[.agg (stCells c A xs.length cp M nm cm t0 t1 t2 t3 t4 t5 t6 t7 t8 t9), .int .i64 m, .int .i64 most] w fun e w' => TextsAt (gotT c xs m most) e w' ∧ Below w.heap.size w w' := by
  have hnil : ∀ w' : World, TextsAt [] (.returned (.slice none 0 0)) w' := fun w' => ⟨none, 0, rfl, strs_nil29 _ _ _⟩
  by_cases hr : rightM c xs.length = true
  case neg =>
    have hg : gotT c xs m most = [] := if_neg (fun h => hr h.1)
    rw [hg]
    by_cases ok : c.ok = true
    · have hn : ¬ (xs.length : Int) = c.words := fun h => hr (by unfold rightM; rw [ok]; simpa using h)
      exact (sregs_b w c A xs.length cp M nm cm t0 t1 t2 t3 t4 t5 t6 t7 t8 t9 m most ok hn).mono fun e w' ⟨h1, h2⟩ => ⟨h1 ▸ hnil w', h2⟩
    · exact (sregs_a w c A xs.length cp M nm cm t0 t1 t2 t3 t4 t5 t6 t7 t8 t9 m most ok).mono fun e w' ⟨h1, h2⟩ => ⟨h1 ▸ hnil w', h2⟩
  case pos =>
    have hr' := hr
    unfold rightM at hr'
    simp only [Bool.and_eq_true, decide_eq_true_eq] at hr'
    obtain ⟨ok, hn⟩ := hr'
    by_cases h0 : m < 0
    · rw [show gotT c xs m most = [] from if_neg (fun h => by omega)]
      exact (sregs_c w c A xs.length cp M nm cm t0 t1 t2 t3 t4 t5 t6 t7 t8 t9 m most ok hn (hnm ok) h0).mono fun e w' ⟨h1, h2⟩ => ⟨h1 ▸ hnil w', h2⟩
    by_cases h1 : c.muts ≤ m
    · rw [show gotT c xs m most = [] from if_neg (fun h => by omega)]
      exact (sregs_d w c A xs.length cp M nm cm t0 t1 t2 t3 t4 t5 t6 t7 t8 t9 m most ok hn (hnm ok) (by omega) h1).mono fun e w' ⟨h1, h2⟩ => ⟨h1 ▸ hnil w', h2⟩
    rw [show gotT c xs m most = regTxts c xs m most c.regs.toNat from if_pos ⟨hr, by omega, by omega⟩]
    exact sregs_ok w B c A xs cp M nm cm t0 t1 t2 t3 t4 t5 t6 t7 t8 t9 m most ok hn hB hxs hw ht (hnm ok) (by omega) (by omega)
def gotW (c : Cfg) (xs : List Int) (x most : Int) : ByteArray := if rightM c xs.length = true then wtxt (prsOf c xs) x most else ⟨#[]⟩
theorem write_any (w : World) (B : Nat) (c : Cfg) (A : Option Addr) (xs : List Int) (cp : Nat) (x most : Int) (hB : B ≤ w.heap.size) (hxs : Words w B A xs) (hw : ∀ y ∈ xs, wok y) (hx : wok x) (ht : Tens w) :
    Calls Tryd.prog 14 #[c.v, .slice A xs.length cp, .int .u64 x, .int .i64 most] w fun e w' => e = .returned (.string (gotW c xs x most)) ∧ Below w.heap.size w w' := by
  by_cases hr : rightM c xs.length = true
  · rw [show gotW c xs x most = wtxt (prsOf c xs) x most from if_pos hr]
    unfold rightM at hr
    simp only [Bool.and_eq_true, decide_eq_true_eq] at hr
    exact write_ok w B c A xs cp x most hr.1 hr.2 hB hxs hx hw ht
  · rw [show gotW c xs x most = ⟨#[]⟩ from if_neg hr]
    exact write_no w c A xs.length cp x most (fun h => hr (by unfold rightM; rw [h.1]; simpa using h.2))
set_option maxHeartbeats 4000000 in
set_option maxRecDepth 100000 in
theorem swrites_near (w : World) (c : Cfg) (A : Option Addr) (xs : List Int) (cp : Nat) (x m most : Int) (hxs : Words w w.heap.size A xs) (hw : ∀ y ∈ xs, wok y) (hx : wok x) (ht : Tens w) (h1 : c.great = false) (h2 : xs.length ≤ 400) (h3 : most ≤ 60) :
    Calls Tryd.prog 3 #[c.v, .slice A xs.length cp, .int .u64 x, .int .i64 m, .int .i64 most] w fun e w' => e = .returned (.bool true) ∧ Below w.heap.size w w' := by
  have hg := h1
  unfold Cfg.great at hg
  simp only [Bool.or_eq_false_iff, decide_eq_false_iff_not] at hg
  obtain ⟨nm, hnm⟩ : ∃ nm : Nat, max 0 (min c.muts 20) = (nm : Int) := ⟨(max 0 (min c.muts 20)).toNat, by omega⟩
  obtain ⟨MO, hmk⟩ := make_muts nm (by omega)
  have HNM : Hid (c.ok = true → (nm : Int) = c.muts) := fun ok => by have := c.ok_iff.1 ok; omega
  have HAW := Lib.hid (show_awake _ (ht.below (Nat.le_refl _) ((Below.refl w.heap.size w).alloc (Nat.le_refl _) c.obj)))
  have hb0 : Below w.heap.size w (w.alloc c.obj) := (Below.refl _ w).alloc (Nat.le_refl _) _
  have HB0 := Lib.hid hb0
  have HBL := Lib.hid (heap_alloc_new w c.obj)
  have HT := Lib.hid ht
  have HXS := Lib.hid hxs
  have HWX := Lib.hid hw
  have HX := Lib.hid hx
  have d2 : decide ((400 : Int) < xs.length) = false := by simp; omega
  have d3 : decide (60 < most) = false := by simp; omega
  clear ht hb0 hg h2 h3 hxs hw hx
  go_enter Tryd.func3, Tryd.ntmps3
  go_wp2_with fail
  refine HAW.out.mono ?_
  rintro e w1 ⟨rfl, hb1⟩
  have HB1 : Hid (Below w.heap.size w w1) := HB0.out.trans (hb1.mono (by simp))
  have HC1 := Lib.hid ((hb1.block w.heap.size (by simp)).trans HBL.out)
  obtain ⟨q0, q1, q2, q3⟩ := Cfg.cells_at HC1.out
  clear hb1 HAW HBL HB0
  go_wp2_with fail
  refine (sgreat_any _ c).mono ?_
  rintro e w2 ⟨rfl, hb2⟩
  rw [h1]
  have HB2 : Hid (Below w.heap.size w w2) := HB1.out.trans (hb2.mono HB1.out.size)
  have HC2 := Lib.hid ((hb2.block w.heap.size (block_lt HC1.out)).trans HC1.out)
  clear hb2 HB1 q0 q1 q2 q3 HC1 h1
  obtain ⟨q0, q1, q2, q3⟩ := Cfg.cells_at HC2.out
  go_wp2_with fail
  have HALL : Hid (∀ W, Below w2.heap.size w2 W → W.cell? ⟨w.heap.size, 0, none⟩ = some (.int .i64 c.cells) ∧ W.cell? ⟨w.heap.size, 1, none⟩ = some (.int .i64 c.muts) ∧ W.cell? ⟨w.heap.size, 2, none⟩ = some (.int .i64 c.regs) ∧ W.cell? ⟨w.heap.size, 3, none⟩ = some (.int .i64 c.globs) ∧ Below w2.heap.size w2 W) := fun W hW => by
    obtain ⟨q0, q1, q2, q3⟩ := Cfg.cells_at ((hW.block _ (block_lt HC2.out)).trans HC2.out)
    exact ⟨q0, q1, q2, q3, hW⟩
  refine wp_region_held_drew (S := (fun W => W.cell? ⟨w.heap.size, 0, none⟩ = some (.int .i64 c.cells) ∧ W.cell? ⟨w.heap.size, 1, none⟩ = some (.int .i64 c.muts) ∧ W.cell? ⟨w.heap.size, 2, none⟩ = some (.int .i64 c.regs) ∧ W.cell? ⟨w.heap.size, 3, none⟩ = some (.int .i64 c.globs) ∧ Below w2.heap.size w2 W)) (by kernel_rfl) ?_ (fun hHeld => ?_)
  · exact HALL.out _ (Below.refl _ _).drew
  refine wpAnyH_take (i := 0) (oi := ?oi1) (v := ?v1) ?hi1 (by kernel_rfl) (by kernel_rfl) (by kernel_rfl) ?hq1 (Or.inl ⟨?hw1, ?hy1⟩) (by assumption) ?rest1
  case hi1 => simp only [List.getElem?_toArray, List.getElem?_cons_succ, List.getElem?_cons_zero]; rfl
  case hq1 => exact fun _ _ _ h => h
  case hw1 => kernel_rfl
  case hy1 => (intro w hSw; (try dsimp only at hSw); go_simp; try with_reducible rfl)
  try simp only [Act.put, List.setIfInBounds_toArray, List.set_cons_zero, List.set_cons_succ]
  refine wpAnyH_take (i := 1) (oi := ?oi2) (v := ?v2) ?hi2 (by kernel_rfl) (by kernel_rfl) (by kernel_rfl) ?hq2 (Or.inl ⟨?hw2, ?hy2⟩) (by assumption) ?rest2
  case hi2 => simp only [List.getElem?_toArray, List.getElem?_cons_succ, List.getElem?_cons_zero]; rfl
  case hq2 => exact fun _ _ _ h => h
  case hw2 => kernel_rfl
  case hy2 => (intro w hSw; (try dsimp only at hSw); go_simp; try with_reducible rfl)
  try simp only [Act.put, List.setIfInBounds_toArray, List.set_cons_zero, List.set_cons_succ]
  refine wpAnyH_take (i := 2) (oi := ?oi3) (v := ?v3) ?hi3 (by kernel_rfl) (by kernel_rfl) (by kernel_rfl) ?hq3 (Or.inl ⟨?hw3, ?hy3⟩) (by assumption) ?rest3
  case hi3 => simp only [List.getElem?_toArray, List.getElem?_cons_succ, List.getElem?_cons_zero]; rfl
  case hq3 => exact fun _ _ _ h => h
  case hw3 => kernel_rfl
  case hy3 => (intro w hSw; (try dsimp only at hSw); go_simp; try with_reducible rfl)
  try simp only [Act.put, List.setIfInBounds_toArray, List.set_cons_zero, List.set_cons_succ]
  refine wpAnyH_take (i := 3) (oi := ?oi4) (v := ?v4) ?hi4 (by kernel_rfl) (by kernel_rfl) (by kernel_rfl) ?hq4 (Or.inl ⟨?hw4, ?hy4⟩) (by assumption) ?rest4
  case hi4 => simp only [List.getElem?_toArray, List.getElem?_cons_succ, List.getElem?_cons_zero]; rfl
  case hq4 => exact fun _ _ _ h => h
  case hw4 => kernel_rfl
  case hy4 => (intro w hSw; (try dsimp only at hSw); go_simp; try with_reducible rfl)
  try simp only [Act.put, List.setIfInBounds_toArray, List.set_cons_zero, List.set_cons_succ]
  refine wpAnyH_take (i := 4) (oi := ?oi5) (v := ?v5) ?hi5 (by kernel_rfl) (by kernel_rfl) (by kernel_rfl) ?hq5 (Or.inl ⟨?hw5, ?hy5⟩) (by assumption) ?rest5
  case hi5 => simp only [List.getElem?_toArray, List.getElem?_cons_succ, List.getElem?_cons_zero]; rfl
  case hq5 => exact fun _ _ _ h => h
  case hw5 => kernel_rfl
  case hy5 => (intro w hSw; (try dsimp only at hSw); go_simp; try with_reducible rfl)
  try simp only [Act.put, List.setIfInBounds_toArray, List.set_cons_zero, List.set_cons_succ]
  refine wpAnyH_take (i := 5) (oi := ?oi6) (v := ?v6) ?hi6 (by kernel_rfl) (by kernel_rfl) (by kernel_rfl) ?hq6 (Or.inl ⟨?hw6, ?hy6⟩) (by assumption) ?rest6
  case hi6 => simp only [List.getElem?_toArray, List.getElem?_cons_succ, List.getElem?_cons_zero]; rfl
  case hq6 => exact fun _ _ _ h => h
  case hw6 => kernel_rfl
  case hy6 => (intro w hSw; (try dsimp only at hSw); go_simp; try with_reducible rfl)
  try simp only [Act.put, List.setIfInBounds_toArray, List.set_cons_zero, List.set_cons_succ]
  refine wpAnyH_ready (rs := [6, 8]) (by kernel_rfl) (by simp) ?_
  refine AllReadyH.cons (o := ?o7) ?ho7 (fun K hK => ?st7) ?more7
  case ho7 => simp only [List.getElem?_toArray, List.getElem?_cons_succ, List.getElem?_cons_zero]; rfl
  go_simp
  refine hK.out _ _ ?_ (fun hHeld => ?_)
  · (refine HALL.out _ ?_; repeat (first | (with_reducible exact Below.refl _ _) | (with_reducible refine Below.alloc ?_ (by simp) _) | (with_reducible refine Below.drew ?_) | (refine Below.setCell ?_ (by simp) _)))
  clear hK K
  try simp only [Act.put, List.setIfInBounds_toArray, List.set_cons_zero, List.set_cons_succ]
  refine wpAnyH_take (i := 7) (oi := ?oi8) (v := ?v8) ?hi8 (by kernel_rfl) (by kernel_rfl) (by kernel_rfl) ?hq8 (Or.inl ⟨?hw8, ?hy8⟩) (by assumption) ?rest8
  case hi8 => simp only [List.getElem?_toArray, List.getElem?_cons_succ, List.getElem?_cons_zero]; rfl
  case hq8 => exact fun _ _ _ h => h
  case hw8 => kernel_rfl
  case hy8 => (intro w hSw; (try dsimp only at hSw); go_simp; try with_reducible rfl)
  try simp only [Act.put, List.setIfInBounds_toArray, List.set_cons_zero, List.set_cons_succ]
  refine wpAnyH_ready (rs := [8]) (by kernel_rfl) (by simp) ?_
  refine AllReadyH.cons (o := ?o9) ?ho9 (fun K hK => ?st9) ?more9
  case ho9 => simp only [List.getElem?_toArray, List.getElem?_cons_succ, List.getElem?_cons_zero]; rfl
  go_simp
  refine hK.out _ _ ?_ (fun hHeld => ?_)
  · (refine HALL.out _ ?_; repeat (first | (with_reducible exact Below.refl _ _) | (with_reducible refine Below.alloc ?_ (by simp) _) | (with_reducible refine Below.drew ?_) | (refine Below.setCell ?_ (by simp) _)))
  clear hK K
  try simp only [Act.put, List.setIfInBounds_toArray, List.set_cons_zero, List.set_cons_succ]
  refine wpAnyH_ready (rs := [9]) (by kernel_rfl) (by simp) ?_
  refine AllReadyH.cons (o := ?o10) ?ho10 (fun K hK => ?st10) ?more10
  case ho10 => simp only [List.getElem?_toArray, List.getElem?_cons_succ, List.getElem?_cons_zero]; rfl
  go_simp
  refine hK.out _ _ ?_ (fun hHeld => ?_)
  · (refine HALL.out _ ?_; repeat (first | (with_reducible exact Below.refl _ _) | (with_reducible refine Below.alloc ?_ (by simp) _) | (with_reducible refine Below.drew ?_) | (refine Below.setCell ?_ (by simp) _)))
  clear hK K
  try simp only [Act.put, List.setIfInBounds_toArray, List.set_cons_zero, List.set_cons_succ]
  refine wpAnyH_done (by kernel_rfl) ?_ _
  rotate_left
  exact AllReadyH.nil
  exact AllReadyH.nil
  refine AllReadyH.cons (o := ?o11) ?ho11 (fun K hK => ?st11) ?more11
  case ho11 => simp only [List.getElem?_toArray, List.getElem?_cons_succ, List.getElem?_cons_zero]; rfl
  go_simp
  refine hK.out _ _ ?_ (fun hHeld => ?_)
  · (refine HALL.out _ ?_; repeat (first | (with_reducible exact Below.refl _ _) | (with_reducible refine Below.alloc ?_ (by simp) _) | (with_reducible refine Below.drew ?_) | (refine Below.setCell ?_ (by simp) _)))
  clear hK K
  try simp only [Act.put, List.setIfInBounds_toArray, List.set_cons_zero, List.set_cons_succ]
  refine wpAnyH_ready (rs := [6]) (by kernel_rfl) (by simp) ?_
  refine AllReadyH.cons (o := ?o12) ?ho12 (fun K hK => ?st12) ?more12
  case ho12 => simp only [List.getElem?_toArray, List.getElem?_cons_succ, List.getElem?_cons_zero]; rfl
  go_simp
  refine hK.out _ _ ?_ (fun hHeld => ?_)
  · (refine HALL.out _ ?_; repeat (first | (with_reducible exact Below.refl _ _) | (with_reducible refine Below.alloc ?_ (by simp) _) | (with_reducible refine Below.drew ?_) | (refine Below.setCell ?_ (by simp) _)))
  clear hK K
  try simp only [Act.put, List.setIfInBounds_toArray, List.set_cons_zero, List.set_cons_succ]
  refine wpAnyH_take (i := 7) (oi := ?oi13) (v := ?v13) ?hi13 (by kernel_rfl) (by kernel_rfl) (by kernel_rfl) ?hq13 (Or.inl ⟨?hw13, ?hy13⟩) (by assumption) ?rest13
  case hi13 => simp only [List.getElem?_toArray, List.getElem?_cons_succ, List.getElem?_cons_zero]; rfl
  case hq13 => exact fun _ _ _ h => h
  case hw13 => kernel_rfl
  case hy13 => (intro w hSw; (try dsimp only at hSw); go_simp; try with_reducible rfl)
  try simp only [Act.put, List.setIfInBounds_toArray, List.set_cons_zero, List.set_cons_succ]
  refine wpAnyH_ready (rs := [9]) (by kernel_rfl) (by simp) ?_
  refine AllReadyH.cons (o := ?o14) ?ho14 (fun K hK => ?st14) ?more14
  case ho14 => simp only [List.getElem?_toArray, List.getElem?_cons_succ, List.getElem?_cons_zero]; rfl
  go_simp
  refine hK.out _ _ ?_ (fun hHeld => ?_)
  · (refine HALL.out _ ?_; repeat (first | (with_reducible exact Below.refl _ _) | (with_reducible refine Below.alloc ?_ (by simp) _) | (with_reducible refine Below.drew ?_) | (refine Below.setCell ?_ (by simp) _)))
  clear hK K
  try simp only [Act.put, List.setIfInBounds_toArray, List.set_cons_zero, List.set_cons_succ]
  refine wpAnyH_done (by kernel_rfl) ?_ _
  rotate_left
  exact AllReadyH.nil
  exact AllReadyH.nil
  exact AllReadyH.nil
  · have hBel := hHeld.2.2.2.2
    have HB3 : Hid (Below w.heap.size w _) := HB2.out.trans (Below.mono hBel HB2.out.size)
    have HC3 := Lib.hid ((Below.block hBel _ (block_lt HC2.out)).trans HC2.out)
    have hz3 := HB3.out.size
    clear hBel HALL hHeld
    go_wp2_with fail
    refine (sregs_any _ w.heap.size c A xs cp _ nm nm _ _ _ _ _ _ _ _ _ _ m most hz3 (HXS.out.below HB3.out) HWX.out (HT.out.below (Nat.le_refl _) HB3.out) HNM.out).mono ?_
    rintro e w4 ⟨⟨GA, gc, rfl, hG⟩, hb4⟩
    have HB4 : Hid (Below w.heap.size w w4) := HB3.out.trans (hb4.mono hz3)
    have HC4 := Lib.hid ((hb4.block _ (block_lt HC3.out)).trans HC3.out)
    have HG := Lib.hid hG
    clear hb4 hG HB3 HC3 hz3 HC2 HB2 q0 q1 q2 q3 hnm hmk d2 d3
    obtain ⟨q0, q1, q2, q3⟩ := Cfg.cells_at HC4.out
    go_wp2_with fail
    refine (refright_any _ c).mono ?_
    rintro e w5 ⟨rfl, hb5⟩
    have HB5 : Hid (Below w.heap.size w w5) := HB4.out.trans (hb5.mono HB4.out.size)
    have HC5 := Lib.hid ((hb5.block _ (block_lt HC4.out)).trans HC4.out)
    have HG5 := Lib.hid (strs_more29 (HG.out.below hb5) hb5.size)
    clear hb5 HB4 HC4 HG q0 q1 q2 q3
    obtain ⟨q0, q1, q2, q3⟩ := Cfg.cells_at HC5.out
    by_cases ok : c.ok = true
    case neg =>
      have hok : c.ok = false := by simpa using ok
      have HR : Hid (rightM c xs.length = false) := by unfold Hid rightM; rw [hok]; rfl
      have HGT : Hid (gotT c xs m most = []) := if_neg (fun h => by rw [HR.out] at h; simp at h)
      have HGW : Hid (gotW c xs x most = ⟨#[]⟩) := if_neg (fun h => by rw [HR.out] at h; simp at h)
      simp only [hok, HGT.out, List.length_nil]
      clear HG5
      go_wp2_with fail
      refine (write_any _ w.heap.size c A xs cp x most HB5.out.size (HXS.out.below HB5.out) HWX.out HX.out (HT.out.below (Nat.le_refl _) HB5.out)).mono ?_
      rintro e w6 ⟨rfl, hb6⟩
      rw [HGW.out]
      have HB6 : Hid (Below w.heap.size w w6) := HB5.out.trans (hb6.mono HB5.out.size)
      clear hb6
      go_wp2_with fail
      go_ret
      exact ⟨rfl, HB6.out⟩
    case pos =>
      simp only [ok]
      go_wp2_with fail
      refine (refwords_any _ c).mono ?_
      rintro e w6 ⟨rfl, hb6⟩
      have HB6 : Hid (Below w.heap.size w w6) := HB5.out.trans (hb6.mono HB5.out.size)
      have HC6 := Lib.hid ((hb6.block _ (block_lt HC5.out)).trans HC5.out)
      have HG6 := Lib.hid (strs_more29 (HG5.out.below hb6) hb6.size)
      clear hb6 HB5 HC5 HG5 q0 q1 q2 q3
      obtain ⟨q0, q1, q2, q3⟩ := Cfg.cells_at HC6.out
      by_cases hn : (xs.length : Int) = c.words
      case neg =>
        have tn : ((xs.length : Int) != c.words) = true := by simpa using hn
        have HR : Hid (rightM c xs.length = false) := by unfold Hid rightM; rw [ok]; simpa using hn
        have HGT : Hid (gotT c xs m most = []) := if_neg (fun h => by rw [HR.out] at h; simp at h)
        have HGW : Hid (gotW c xs x most = ⟨#[]⟩) := if_neg (fun h => by rw [HR.out] at h; simp at h)
        simp only [tn, HGT.out, List.length_nil]
        clear HG6
        go_wp2_with fail
        refine (write_any _ w.heap.size c A xs cp x most HB6.out.size (HXS.out.below HB6.out) HWX.out HX.out (HT.out.below (Nat.le_refl _) HB6.out)).mono ?_
        rintro e w7 ⟨rfl, hb7⟩
        rw [HGW.out]
        have HB7 : Hid (Below w.heap.size w w7) := HB6.out.trans (hb7.mono HB6.out.size)
        clear hb7
        go_wp2_with fail
        go_ret
        exact ⟨rfl, HB7.out⟩
      case pos =>
        have tn : ((xs.length : Int) != c.words) = false := by simpa using hn
        have HOK := Lib.hid ok
        have HN := Lib.hid hn
        have HRI : Hid (rightM c xs.length = true) := by unfold Hid rightM; rw [ok, hn]; simp
        clear ok hn
        go_wp2_with fail
        refine (memory_any _ w.heap.size c A xs cp HOK.out HN.out HB6.out.size (HXS.out.below HB6.out)).mono ?_
        rintro e w7 ⟨⟨PA, PD, cA, cD, rfl, hP⟩, hb7⟩
        have HB7 : Hid (Below w.heap.size w w7) := HB6.out.trans (hb7.mono HB6.out.size)
        have HC7 := Lib.hid ((hb7.block _ (block_lt HC6.out)).trans HC6.out)
        have HG7 := Lib.hid (strs_more29 (HG6.out.below hb7) hb7.size)
        have HP7 := Lib.hid hP
        clear hb7 HB6 HC6 HG6 q0 q1 q2 q3 hP tn
        obtain ⟨W8, hW8⟩ : ∃ W8, W8 = w7.alloc (.cells #[.slice PA (prsOf c xs).n cA, .slice PD (prsOf c xs).n cD] 40) := ⟨_, rfl⟩
        have hb8 : Below w7.heap.size w7 W8 := by rw [hW8]; exact (Below.refl _ w7).alloc (Nat.le_refl _) _
        have HB8 : Hid (Below w.heap.size w W8) := HB7.out.trans (hb8.mono HB7.out.size)
        have HC8 := Lib.hid ((hb8.block _ (block_lt HC7.out)).trans HC7.out)
        have HPB : Hid (W8.heap[w7.heap.size]? = some (.cells #[.slice PA (prsOf c xs).n cA, .slice PD (prsOf c xs).n cD] 40)) := by rw [hW8]; exact heap_alloc_new w7 _
        have HG8 := Lib.hid (strs_more29 (HG7.out.below hb8) hb8.size)
        have HP8 := Lib.hid (HP7.out.below hb8)
        have hbp : w7.heap.size < W8.heap.size := by rw [hW8]; simp
        have HALL : Hid (∀ W, Below W8.heap.size W8 W → W.cell? ⟨w.heap.size, 0, none⟩ = some (.int .i64 c.cells) ∧ W.cell? ⟨w.heap.size, 1, none⟩ = some (.int .i64 c.muts) ∧ W.cell? ⟨w.heap.size, 2, none⟩ = some (.int .i64 c.regs) ∧ W.cell? ⟨w.heap.size, 3, none⟩ = some (.int .i64 c.globs) ∧ W.cell? ⟨w7.heap.size, 0, none⟩ = some (.slice PA (prsOf c xs).n cA) ∧ W.cell? ⟨w7.heap.size, 1, none⟩ = some (.slice PD (prsOf c xs).n cD)) := fun W hW => by
          obtain ⟨f0, f1, f2, f3⟩ := Cfg.cells_at ((hW.block _ (block_lt HC8.out)).trans HC8.out)
          have hh := (hW.block _ (block_lt HPB.out)).trans HPB.out
          exact ⟨f0, f1, f2, f3, cell_of_block hh 0, cell_of_block hh 1⟩
        obtain ⟨bp, hbp9⟩ : ∃ bp, bp = w7.heap.size := ⟨_, rfl⟩
        rw [← hbp9] at HP8 HALL hbp
        clear hb8 HB7 HC7 HPB HG7 HP7
        go_wp2_with fail
        rw [← hbp9, ← hW8]
        clear hW8 hbp9
        have hrg := HOK.out
        rw [Cfg.ok_iff] at hrg
        obtain ⟨g1, g2, g3, g4, g5, g6, g7, g8⟩ := hrg
        go_loopw [14, 15] (fun v iv wr => ∃ k : Nat, (k : Int) ≤ c.regs ∧ iv = .int .i64 k ∧ Hid (0 < k → 0 ≤ m ∧ m < c.muts) ∧ Hid (wr.ownsRow W8.heap.size 9 1 v (regTxts c xs m most k).length ((regTxts c xs m most k).map Value.string)) ∧ Hid (Below W8.heap.size W8 wr)) (fun _ iv _ => c.regs.toNat - (intOf iv).toNat)
        case atStart => exact ⟨0, by omega, rfl, fun h => absurd h (by omega), own_nil _ _, Below.refl _ _⟩
        case round =>
          obtain ⟨k, hk, rfl, HIN, HO, HBr⟩ := hrel
          by_cases hin : (0 ≤ m ∧ m < c.muts) ∧ (k : Int) < c.regs
          case neg =>
            have HGT : Hid (gotT c xs m most = regTxts c xs m most k) := by
              unfold Hid gotT
              by_cases hh : 0 ≤ m ∧ m < c.muts
              · rw [if_pos ⟨HRI.out, hh⟩]
                have : k = c.regs.toNat := by omega
                rw [this]
              · rw [if_neg (fun h => hh h.2)]
                have : k = 0 := by
                  have := HIN.out
                  omega
                rw [this]
                rfl
            have HGW : Hid (gotW c xs x most = wtxt (prsOf c xs) x most) := if_pos HRI.out
            obtain ⟨q0, q1, q2, q3, _, _⟩ := HALL.out wr HBr.out
            have hcase : m < 0 ∨ (0 ≤ m ∧ c.muts ≤ m) ∨ (0 ≤ m ∧ m < c.muts ∧ c.regs ≤ (k : Int)) := by omega
            obtain ⟨A2, cp2, hv, hcap, hst⟩ := strs_of_own HO.out
            subst hv
            have HST := Lib.hid hst
            clear hin hst hcap HO
            rw [← HGT.out] at HST
            rw [← HGT.out]
            have HL : Hid ((gotT c xs m most).length ≤ 1000) := by unfold Hid; rw [HGT.out, regTxts_len]; omega
            have HS3 : Hid (∀ W, Below wr.heap.size wr W → W.cell? ⟨w.heap.size, 0, none⟩ = some (.int .i64 c.cells) ∧ W.cell? ⟨w.heap.size, 1, none⟩ = some (.int .i64 c.muts) ∧ W.cell? ⟨w.heap.size, 2, none⟩ = some (.int .i64 c.regs) ∧ W.cell? ⟨w.heap.size, 3, none⟩ = some (.int .i64 c.globs) ∧ W.cell? ⟨bp, 0, none⟩ = some (.slice PA (prsOf c xs).n cA) ∧ W.cell? ⟨bp, 1, none⟩ = some (.slice PD (prsOf c xs).n cD) ∧ Below wr.heap.size wr W) := fun W hW => by
              obtain ⟨l0, l1, l2, l3, l4, l5⟩ := HALL.out W (HBr.out.trans (hW.mono HBr.out.size))
              exact ⟨l0, l1, l2, l3, l4, l5, hW⟩
            have HW14 : Hid (∀ W, Below wr.heap.size wr W → Calls Tryd.prog 14 #[c.v, .slice A xs.length cp, .int .u64 x, .int .i64 most] W fun e w' => e = .returned (.string (wtxt (prsOf c xs) x most)) ∧ Below W.heap.size W w') := fun W hW => by
              have hh : Below w.heap.size w W := HB8.out.trans ((HBr.out.trans (hW.mono HBr.out.size)).mono HB8.out.size)
              have h := write_any W w.heap.size c A xs cp x most hh.size (HXS.out.below hh) HWX.out HX.out (HT.out.below (Nat.le_refl _) hh)
              rwa [HGW.out] at h
            have HW16 : Hid (∀ W, Below wr.heap.size wr W → Calls Tryd.prog 16 #[.agg #[.slice PA (prsOf c xs).n cA, .slice PD (prsOf c xs).n cD], .int .u64 x, .int .i64 most] W fun e w' => e = .returned (.string (wtxt (prsOf c xs) x most)) ∧ Below W.heap.size W w') := fun W hW => by
              have hh := HBr.out.trans (hW.mono HBr.out.size)
              exact refwrite_any W bp PA PD cA cD (prsOf c xs) x most (prsOf_fits c xs HOK.out HWX.out) HX.out (Nat.le_trans (Nat.le_of_lt hbp) hh.size) (HP8.out.below (hh.mono (Nat.le_of_lt hbp)))
            have HW18 : Hid (∀ W, Below wr.heap.size wr W → Calls Tryd.prog 18 #[.slice GA (gotT c xs m most).length gc, .slice A2 (gotT c xs m most).length cp2] W fun e w' => e = .returned (.bool true) ∧ Below W.heap.size W w') := fun W hW => by
              have hh := HBr.out.trans (hW.mono HBr.out.size)
              exact reftexts_same W GA A2 gc cp2 (gotT c xs m most) (strs_more29 (HG8.out.below hh) hh.size) (strs_more29 (HST.out.below hW) hW.size) HL.out
            clear HGW
            generalize wtxt (prsOf c xs) x most = T at *
            rcases hcase with h | ⟨h, h'⟩ | ⟨h, h', h''⟩
            · first | have t1 : decide (0 ≤ m) = false := (by simp; omega) | skip
              first | have t1 : decide (0 ≤ m) = true := (by simp; omega) | skip
              first | have t2 : decide (m < c.muts) = false := (by simp; omega) | skip
              first | have t2 : decide (m < c.muts) = true := (by simp; omega) | skip
              first | have t3 : decide ((k : Int) < c.regs) = false := (by simp; omega) | skip
              go_wp2_with fail
              refine wp_region_held_drew (S := (fun W => W.cell? ⟨w.heap.size, 0, none⟩ = some (.int .i64 c.cells) ∧ W.cell? ⟨w.heap.size, 1, none⟩ = some (.int .i64 c.muts) ∧ W.cell? ⟨w.heap.size, 2, none⟩ = some (.int .i64 c.regs) ∧ W.cell? ⟨w.heap.size, 3, none⟩ = some (.int .i64 c.globs) ∧ W.cell? ⟨bp, 0, none⟩ = some (.slice PA (prsOf c xs).n cA) ∧ W.cell? ⟨bp, 1, none⟩ = some (.slice PD (prsOf c xs).n cD) ∧ Below wr.heap.size wr W)) (by kernel_rfl) ?_ (fun hHeld => ?_)
              · exact HS3.out _ (Below.refl _ _).drew
              refine wpAnyH_take (i := 0) (oi := ?oi1001) (v := ?v1001) ?hi1001 (by kernel_rfl) (by kernel_rfl) (by kernel_rfl) ?hq1001 (Or.inl ⟨?hw1001, ?hy1001⟩) (by assumption) ?rest1001
              case hi1001 => simp only [List.getElem?_toArray, List.getElem?_cons_succ, List.getElem?_cons_zero]; rfl
              case hq1001 => exact fun _ _ _ h => h
              case hw1001 => kernel_rfl
              case hy1001 => (intro w hSw; (try dsimp only at hSw); go_simp; try with_reducible rfl)
              try simp only [Act.put, List.setIfInBounds_toArray, List.set_cons_zero, List.set_cons_succ]
              refine wpAnyH_take (i := 1) (oi := ?oi1002) (v := ?v1002) ?hi1002 (by kernel_rfl) (by kernel_rfl) (by kernel_rfl) ?hq1002 (Or.inl ⟨?hw1002, ?hy1002⟩) (by assumption) ?rest1002
              case hi1002 => simp only [List.getElem?_toArray, List.getElem?_cons_succ, List.getElem?_cons_zero]; rfl
              case hq1002 => exact fun _ _ _ h => h
              case hw1002 => kernel_rfl
              case hy1002 => (intro w hSw; (try dsimp only at hSw); go_simp; try with_reducible rfl)
              try simp only [Act.put, List.setIfInBounds_toArray, List.set_cons_zero, List.set_cons_succ]
              refine wpAnyH_take (i := 2) (oi := ?oi1003) (v := ?v1003) ?hi1003 (by kernel_rfl) (by kernel_rfl) (by kernel_rfl) ?hq1003 (Or.inl ⟨?hw1003, ?hy1003⟩) (by assumption) ?rest1003
              case hi1003 => simp only [List.getElem?_toArray, List.getElem?_cons_succ, List.getElem?_cons_zero]; rfl
              case hq1003 => exact fun _ _ _ h => h
              case hw1003 => kernel_rfl
              case hy1003 => (intro w hSw; (try dsimp only at hSw); go_simp; try with_reducible rfl)
              try simp only [Act.put, List.setIfInBounds_toArray, List.set_cons_zero, List.set_cons_succ]
              refine wpAnyH_take (i := 3) (oi := ?oi1004) (v := ?v1004) ?hi1004 (by kernel_rfl) (by kernel_rfl) (by kernel_rfl) ?hq1004 (Or.inl ⟨?hw1004, ?hy1004⟩) (by assumption) ?rest1004
              case hi1004 => simp only [List.getElem?_toArray, List.getElem?_cons_succ, List.getElem?_cons_zero]; rfl
              case hq1004 => exact fun _ _ _ h => h
              case hw1004 => kernel_rfl
              case hy1004 => (intro w hSw; (try dsimp only at hSw); go_simp; try with_reducible rfl)
              try simp only [Act.put, List.setIfInBounds_toArray, List.set_cons_zero, List.set_cons_succ]
              refine wpAnyH_take (i := 5) (oi := ?oi1005) (v := ?v1005) ?hi1005 (by kernel_rfl) (by kernel_rfl) (by kernel_rfl) ?hq1005 (Or.inl ⟨?hw1005, ?hy1005⟩) (by assumption) ?rest1005
              case hi1005 => simp only [List.getElem?_toArray, List.getElem?_cons_succ, List.getElem?_cons_zero]; rfl
              case hq1005 => exact fun _ _ _ h => h
              case hw1005 => kernel_rfl
              case hy1005 => (intro w hSw; (try dsimp only at hSw); go_simp; try with_reducible rfl)
              try simp only [Act.put, List.setIfInBounds_toArray, List.set_cons_zero, List.set_cons_succ]
              refine wpAnyH_take (i := 6) (oi := ?oi1006) (v := ?v1006) ?hi1006 (by kernel_rfl) (by kernel_rfl) (by kernel_rfl) ?hq1006 (Or.inl ⟨?hw1006, ?hy1006⟩) (by assumption) ?rest1006
              case hi1006 => simp only [List.getElem?_toArray, List.getElem?_cons_succ, List.getElem?_cons_zero]; rfl
              case hq1006 => exact fun _ _ _ h => h
              case hw1006 => kernel_rfl
              case hy1006 => (intro w hSw; (try dsimp only at hSw); go_simp; try with_reducible rfl)
              try simp only [Act.put, List.setIfInBounds_toArray, List.set_cons_zero, List.set_cons_succ]
              refine wpAnyH_take (i := 7) (oi := ?oi1007) (v := ?v1007) ?hi1007 (by kernel_rfl) (by kernel_rfl) (by kernel_rfl) ?hq1007 (Or.inl ⟨?hw1007, ?hy1007⟩) (by assumption) ?rest1007
              case hi1007 => simp only [List.getElem?_toArray, List.getElem?_cons_succ, List.getElem?_cons_zero]; rfl
              case hq1007 => exact fun _ _ _ h => h
              case hw1007 => kernel_rfl
              case hy1007 => (intro w hSw; (try dsimp only at hSw); go_simp; try with_reducible rfl)
              try simp only [Act.put, List.setIfInBounds_toArray, List.set_cons_zero, List.set_cons_succ]
              refine wpAnyH_ready (rs := [4]) (by kernel_rfl) (by simp) ?_
              refine AllReadyH.cons (o := ?o1008) ?ho1008 (fun K hK => ?st1008) AllReadyH.nil
              case ho1008 => simp only [List.getElem?_toArray, List.getElem?_cons_succ, List.getElem?_cons_zero]; rfl
              go_simp
              go_at_call 14
              refine (HW14.out _ (hHeld.2.2.2.2.2.2)).mono ?_
              rintro e wp ⟨rfl, hb2⟩
              have hBel := Below.trans hHeld.2.2.2.2.2.2 (hb2.mono (Below.size hHeld.2.2.2.2.2.2))
              clear hHeld
              try go_simp
              refine hK.out _ _ ?_ (fun hHeld => ?_)
              · exact HS3.out _ hBel
              clear hK K hb2 hBel
              try simp only [Act.put, List.setIfInBounds_toArray, List.set_cons_zero, List.set_cons_succ]
              refine wpAnyH_ready (rs := [8]) (by kernel_rfl) (by simp) ?_
              refine AllReadyH.cons (o := ?o1009) ?ho1009 (fun K hK => ?st1009) AllReadyH.nil
              case ho1009 => simp only [List.getElem?_toArray, List.getElem?_cons_succ, List.getElem?_cons_zero]; rfl
              go_simp
              go_at_call 16
              refine (HW16.out _ (hHeld.2.2.2.2.2.2)).mono ?_
              rintro e wp ⟨rfl, hb2⟩
              have hBel := Below.trans hHeld.2.2.2.2.2.2 (hb2.mono (Below.size hHeld.2.2.2.2.2.2))
              clear hHeld
              try go_simp
              refine hK.out _ _ ?_ (fun hHeld => ?_)
              · exact HS3.out _ hBel
              clear hK K hb2 hBel
              try simp only [Act.put, List.setIfInBounds_toArray, List.set_cons_zero, List.set_cons_succ]
              refine wpAnyH_take (i := 9) (oi := ?oi1010) (v := ?v1010) ?hi1010 (by kernel_rfl) (by kernel_rfl) (by kernel_rfl) ?hq1010 (Or.inl ⟨?hw1010, ?hy1010⟩) (by assumption) ?rest1010
              case hi1010 => simp only [List.getElem?_toArray, List.getElem?_cons_succ, List.getElem?_cons_zero]; rfl
              case hq1010 => exact fun _ _ _ h => h
              case hw1010 => kernel_rfl
              case hy1010 => (intro w hSw; (try dsimp only at hSw); go_simp; try with_reducible rfl)
              try simp only [Act.put, List.setIfInBounds_toArray, List.set_cons_zero, List.set_cons_succ]
              refine wpAnyH_take (i := 10) (oi := ?oi1011) (v := ?v1011) ?hi1011 (by kernel_rfl) (by kernel_rfl) (by kernel_rfl) ?hq1011 (Or.inl ⟨?hw1011, ?hy1011⟩) (by assumption) ?rest1011
              case hi1011 => simp only [List.getElem?_toArray, List.getElem?_cons_succ, List.getElem?_cons_zero]; rfl
              case hq1011 => exact fun _ _ _ h => h
              case hw1011 => kernel_rfl
              case hy1011 => (intro w hSw; (try dsimp only at hSw); go_simp; try with_reducible rfl)
              try simp only [Act.put, List.setIfInBounds_toArray, List.set_cons_zero, List.set_cons_succ]
              refine wpAnyH_take (i := 11) (oi := ?oi1012) (v := ?v1012) ?hi1012 (by kernel_rfl) (by kernel_rfl) (by kernel_rfl) ?hq1012 (Or.inl ⟨?hw1012, ?hy1012⟩) (by assumption) ?rest1012
              case hi1012 => simp only [List.getElem?_toArray, List.getElem?_cons_succ, List.getElem?_cons_zero]; rfl
              case hq1012 => exact fun _ _ _ h => h
              case hw1012 => kernel_rfl
              case hy1012 => (intro w hSw; (try dsimp only at hSw); go_simp; try with_reducible rfl)
              try simp only [Act.put, List.setIfInBounds_toArray, List.set_cons_zero, List.set_cons_succ]
              refine wpAnyH_take (i := 12) (oi := ?oi1013) (v := ?v1013) ?hi1013 (by kernel_rfl) (by kernel_rfl) (by kernel_rfl) ?hq1013 (Or.inl ⟨?hw1013, ?hy1013⟩) (by assumption) ?rest1013
              case hi1013 => simp only [List.getElem?_toArray, List.getElem?_cons_succ, List.getElem?_cons_zero]; rfl
              case hq1013 => exact fun _ _ _ h => h
              case hw1013 => kernel_rfl
              case hy1013 => (intro w hSw; (try dsimp only at hSw); go_simp; try with_reducible rfl)
              try simp only [Act.put, List.setIfInBounds_toArray, List.set_cons_zero, List.set_cons_succ]
              refine wpAnyH_ready (rs := [13]) (by kernel_rfl) (by simp) ?_
              refine AllReadyH.cons (o := ?o1014) ?ho1014 (fun K hK => ?st1014) AllReadyH.nil
              case ho1014 => simp only [List.getElem?_toArray, List.getElem?_cons_succ, List.getElem?_cons_zero]; rfl
              go_simp
              go_at_call 18
              refine (HW18.out _ (hHeld.2.2.2.2.2.2)).mono ?_
              rintro e wp ⟨rfl, hb2⟩
              have hBel := Below.trans hHeld.2.2.2.2.2.2 (hb2.mono (Below.size hHeld.2.2.2.2.2.2))
              clear hHeld
              try go_simp
              refine hK.out _ _ ?_ (fun hHeld => ?_)
              · exact HS3.out _ hBel
              clear hK K hb2 hBel
              try simp only [Act.put, List.setIfInBounds_toArray, List.set_cons_zero, List.set_cons_succ]
              refine wpAnyH_take (i := 14) (oi := ?oi1015) (v := ?v1015) ?hi1015 (by kernel_rfl) (by kernel_rfl) (by kernel_rfl) ?hq1015 (Or.inl ⟨?hw1015, ?hy1015⟩) (by assumption) ?rest1015
              case hi1015 => simp only [List.getElem?_toArray, List.getElem?_cons_succ, List.getElem?_cons_zero]; rfl
              case hq1015 => exact fun _ _ _ h => h
              case hw1015 => kernel_rfl
              case hy1015 => (intro w hSw; (try dsimp only at hSw); go_simp; try with_reducible rfl)
              try simp only [Act.put, List.setIfInBounds_toArray, List.set_cons_zero, List.set_cons_succ]
              refine wpAnyH_take (i := 15) (oi := ?oi1016) (v := ?v1016) ?hi1016 (by kernel_rfl) (by kernel_rfl) (by kernel_rfl) ?hq1016 (Or.inl ⟨?hw1016, ?hy1016⟩) (by assumption) ?rest1016
              case hi1016 => simp only [List.getElem?_toArray, List.getElem?_cons_succ, List.getElem?_cons_zero]; rfl
              case hq1016 => exact fun _ _ _ h => h
              case hw1016 => kernel_rfl
              case hy1016 => (intro w hSw; (try dsimp only at hSw); go_simp; try with_reducible rfl)
              try simp only [Act.put, List.setIfInBounds_toArray, List.set_cons_zero, List.set_cons_succ]
              refine wpAnyH_done (by kernel_rfl) ?_ _
              have HBE := Lib.hid (hHeld.2.2.2.2.2.2)
              clear hHeld
              go_wp2_with fail
              go_ret
              exact ⟨rfl, HB8.out.trans ((HBr.out.trans (HBE.out.mono HBr.out.size)).mono HB8.out.size)⟩
            · first | have t1 : decide (0 ≤ m) = false := (by simp; omega) | skip
              first | have t1 : decide (0 ≤ m) = true := (by simp; omega) | skip
              first | have t2 : decide (m < c.muts) = false := (by simp; omega) | skip
              first | have t2 : decide (m < c.muts) = true := (by simp; omega) | skip
              first | have t3 : decide ((k : Int) < c.regs) = false := (by simp; omega) | skip
              go_wp2_with fail
              refine wp_region_held_drew (S := (fun W => W.cell? ⟨w.heap.size, 0, none⟩ = some (.int .i64 c.cells) ∧ W.cell? ⟨w.heap.size, 1, none⟩ = some (.int .i64 c.muts) ∧ W.cell? ⟨w.heap.size, 2, none⟩ = some (.int .i64 c.regs) ∧ W.cell? ⟨w.heap.size, 3, none⟩ = some (.int .i64 c.globs) ∧ W.cell? ⟨bp, 0, none⟩ = some (.slice PA (prsOf c xs).n cA) ∧ W.cell? ⟨bp, 1, none⟩ = some (.slice PD (prsOf c xs).n cD) ∧ Below wr.heap.size wr W)) (by kernel_rfl) ?_ (fun hHeld => ?_)
              · exact HS3.out _ (Below.refl _ _).drew
              refine wpAnyH_take (i := 0) (oi := ?oi1017) (v := ?v1017) ?hi1017 (by kernel_rfl) (by kernel_rfl) (by kernel_rfl) ?hq1017 (Or.inl ⟨?hw1017, ?hy1017⟩) (by assumption) ?rest1017
              case hi1017 => simp only [List.getElem?_toArray, List.getElem?_cons_succ, List.getElem?_cons_zero]; rfl
              case hq1017 => exact fun _ _ _ h => h
              case hw1017 => kernel_rfl
              case hy1017 => (intro w hSw; (try dsimp only at hSw); go_simp; try with_reducible rfl)
              try simp only [Act.put, List.setIfInBounds_toArray, List.set_cons_zero, List.set_cons_succ]
              refine wpAnyH_take (i := 1) (oi := ?oi1018) (v := ?v1018) ?hi1018 (by kernel_rfl) (by kernel_rfl) (by kernel_rfl) ?hq1018 (Or.inl ⟨?hw1018, ?hy1018⟩) (by assumption) ?rest1018
              case hi1018 => simp only [List.getElem?_toArray, List.getElem?_cons_succ, List.getElem?_cons_zero]; rfl
              case hq1018 => exact fun _ _ _ h => h
              case hw1018 => kernel_rfl
              case hy1018 => (intro w hSw; (try dsimp only at hSw); go_simp; try with_reducible rfl)
              try simp only [Act.put, List.setIfInBounds_toArray, List.set_cons_zero, List.set_cons_succ]
              refine wpAnyH_take (i := 2) (oi := ?oi1019) (v := ?v1019) ?hi1019 (by kernel_rfl) (by kernel_rfl) (by kernel_rfl) ?hq1019 (Or.inl ⟨?hw1019, ?hy1019⟩) (by assumption) ?rest1019
              case hi1019 => simp only [List.getElem?_toArray, List.getElem?_cons_succ, List.getElem?_cons_zero]; rfl
              case hq1019 => exact fun _ _ _ h => h
              case hw1019 => kernel_rfl
              case hy1019 => (intro w hSw; (try dsimp only at hSw); go_simp; try with_reducible rfl)
              try simp only [Act.put, List.setIfInBounds_toArray, List.set_cons_zero, List.set_cons_succ]
              refine wpAnyH_take (i := 3) (oi := ?oi1020) (v := ?v1020) ?hi1020 (by kernel_rfl) (by kernel_rfl) (by kernel_rfl) ?hq1020 (Or.inl ⟨?hw1020, ?hy1020⟩) (by assumption) ?rest1020
              case hi1020 => simp only [List.getElem?_toArray, List.getElem?_cons_succ, List.getElem?_cons_zero]; rfl
              case hq1020 => exact fun _ _ _ h => h
              case hw1020 => kernel_rfl
              case hy1020 => (intro w hSw; (try dsimp only at hSw); go_simp; try with_reducible rfl)
              try simp only [Act.put, List.setIfInBounds_toArray, List.set_cons_zero, List.set_cons_succ]
              refine wpAnyH_take (i := 5) (oi := ?oi1021) (v := ?v1021) ?hi1021 (by kernel_rfl) (by kernel_rfl) (by kernel_rfl) ?hq1021 (Or.inl ⟨?hw1021, ?hy1021⟩) (by assumption) ?rest1021
              case hi1021 => simp only [List.getElem?_toArray, List.getElem?_cons_succ, List.getElem?_cons_zero]; rfl
              case hq1021 => exact fun _ _ _ h => h
              case hw1021 => kernel_rfl
              case hy1021 => (intro w hSw; (try dsimp only at hSw); go_simp; try with_reducible rfl)
              try simp only [Act.put, List.setIfInBounds_toArray, List.set_cons_zero, List.set_cons_succ]
              refine wpAnyH_take (i := 6) (oi := ?oi1022) (v := ?v1022) ?hi1022 (by kernel_rfl) (by kernel_rfl) (by kernel_rfl) ?hq1022 (Or.inl ⟨?hw1022, ?hy1022⟩) (by assumption) ?rest1022
              case hi1022 => simp only [List.getElem?_toArray, List.getElem?_cons_succ, List.getElem?_cons_zero]; rfl
              case hq1022 => exact fun _ _ _ h => h
              case hw1022 => kernel_rfl
              case hy1022 => (intro w hSw; (try dsimp only at hSw); go_simp; try with_reducible rfl)
              try simp only [Act.put, List.setIfInBounds_toArray, List.set_cons_zero, List.set_cons_succ]
              refine wpAnyH_take (i := 7) (oi := ?oi1023) (v := ?v1023) ?hi1023 (by kernel_rfl) (by kernel_rfl) (by kernel_rfl) ?hq1023 (Or.inl ⟨?hw1023, ?hy1023⟩) (by assumption) ?rest1023
              case hi1023 => simp only [List.getElem?_toArray, List.getElem?_cons_succ, List.getElem?_cons_zero]; rfl
              case hq1023 => exact fun _ _ _ h => h
              case hw1023 => kernel_rfl
              case hy1023 => (intro w hSw; (try dsimp only at hSw); go_simp; try with_reducible rfl)
              try simp only [Act.put, List.setIfInBounds_toArray, List.set_cons_zero, List.set_cons_succ]
              refine wpAnyH_ready (rs := [4]) (by kernel_rfl) (by simp) ?_
              refine AllReadyH.cons (o := ?o1024) ?ho1024 (fun K hK => ?st1024) AllReadyH.nil
              case ho1024 => simp only [List.getElem?_toArray, List.getElem?_cons_succ, List.getElem?_cons_zero]; rfl
              go_simp
              go_at_call 14
              refine (HW14.out _ (hHeld.2.2.2.2.2.2)).mono ?_
              rintro e wp ⟨rfl, hb2⟩
              have hBel := Below.trans hHeld.2.2.2.2.2.2 (hb2.mono (Below.size hHeld.2.2.2.2.2.2))
              clear hHeld
              try go_simp
              refine hK.out _ _ ?_ (fun hHeld => ?_)
              · exact HS3.out _ hBel
              clear hK K hb2 hBel
              try simp only [Act.put, List.setIfInBounds_toArray, List.set_cons_zero, List.set_cons_succ]
              refine wpAnyH_ready (rs := [8]) (by kernel_rfl) (by simp) ?_
              refine AllReadyH.cons (o := ?o1025) ?ho1025 (fun K hK => ?st1025) AllReadyH.nil
              case ho1025 => simp only [List.getElem?_toArray, List.getElem?_cons_succ, List.getElem?_cons_zero]; rfl
              go_simp
              go_at_call 16
              refine (HW16.out _ (hHeld.2.2.2.2.2.2)).mono ?_
              rintro e wp ⟨rfl, hb2⟩
              have hBel := Below.trans hHeld.2.2.2.2.2.2 (hb2.mono (Below.size hHeld.2.2.2.2.2.2))
              clear hHeld
              try go_simp
              refine hK.out _ _ ?_ (fun hHeld => ?_)
              · exact HS3.out _ hBel
              clear hK K hb2 hBel
              try simp only [Act.put, List.setIfInBounds_toArray, List.set_cons_zero, List.set_cons_succ]
              refine wpAnyH_take (i := 9) (oi := ?oi1026) (v := ?v1026) ?hi1026 (by kernel_rfl) (by kernel_rfl) (by kernel_rfl) ?hq1026 (Or.inl ⟨?hw1026, ?hy1026⟩) (by assumption) ?rest1026
              case hi1026 => simp only [List.getElem?_toArray, List.getElem?_cons_succ, List.getElem?_cons_zero]; rfl
              case hq1026 => exact fun _ _ _ h => h
              case hw1026 => kernel_rfl
              case hy1026 => (intro w hSw; (try dsimp only at hSw); go_simp; try with_reducible rfl)
              try simp only [Act.put, List.setIfInBounds_toArray, List.set_cons_zero, List.set_cons_succ]
              refine wpAnyH_take (i := 10) (oi := ?oi1027) (v := ?v1027) ?hi1027 (by kernel_rfl) (by kernel_rfl) (by kernel_rfl) ?hq1027 (Or.inl ⟨?hw1027, ?hy1027⟩) (by assumption) ?rest1027
              case hi1027 => simp only [List.getElem?_toArray, List.getElem?_cons_succ, List.getElem?_cons_zero]; rfl
              case hq1027 => exact fun _ _ _ h => h
              case hw1027 => kernel_rfl
              case hy1027 => (intro w hSw; (try dsimp only at hSw); go_simp; try with_reducible rfl)
              try simp only [Act.put, List.setIfInBounds_toArray, List.set_cons_zero, List.set_cons_succ]
              refine wpAnyH_take (i := 11) (oi := ?oi1028) (v := ?v1028) ?hi1028 (by kernel_rfl) (by kernel_rfl) (by kernel_rfl) ?hq1028 (Or.inl ⟨?hw1028, ?hy1028⟩) (by assumption) ?rest1028
              case hi1028 => simp only [List.getElem?_toArray, List.getElem?_cons_succ, List.getElem?_cons_zero]; rfl
              case hq1028 => exact fun _ _ _ h => h
              case hw1028 => kernel_rfl
              case hy1028 => (intro w hSw; (try dsimp only at hSw); go_simp; try with_reducible rfl)
              try simp only [Act.put, List.setIfInBounds_toArray, List.set_cons_zero, List.set_cons_succ]
              refine wpAnyH_take (i := 12) (oi := ?oi1029) (v := ?v1029) ?hi1029 (by kernel_rfl) (by kernel_rfl) (by kernel_rfl) ?hq1029 (Or.inl ⟨?hw1029, ?hy1029⟩) (by assumption) ?rest1029
              case hi1029 => simp only [List.getElem?_toArray, List.getElem?_cons_succ, List.getElem?_cons_zero]; rfl
              case hq1029 => exact fun _ _ _ h => h
              case hw1029 => kernel_rfl
              case hy1029 => (intro w hSw; (try dsimp only at hSw); go_simp; try with_reducible rfl)
              try simp only [Act.put, List.setIfInBounds_toArray, List.set_cons_zero, List.set_cons_succ]
              refine wpAnyH_ready (rs := [13]) (by kernel_rfl) (by simp) ?_
              refine AllReadyH.cons (o := ?o1030) ?ho1030 (fun K hK => ?st1030) AllReadyH.nil
              case ho1030 => simp only [List.getElem?_toArray, List.getElem?_cons_succ, List.getElem?_cons_zero]; rfl
              go_simp
              go_at_call 18
              refine (HW18.out _ (hHeld.2.2.2.2.2.2)).mono ?_
              rintro e wp ⟨rfl, hb2⟩
              have hBel := Below.trans hHeld.2.2.2.2.2.2 (hb2.mono (Below.size hHeld.2.2.2.2.2.2))
              clear hHeld
              try go_simp
              refine hK.out _ _ ?_ (fun hHeld => ?_)
              · exact HS3.out _ hBel
              clear hK K hb2 hBel
              try simp only [Act.put, List.setIfInBounds_toArray, List.set_cons_zero, List.set_cons_succ]
              refine wpAnyH_take (i := 14) (oi := ?oi1031) (v := ?v1031) ?hi1031 (by kernel_rfl) (by kernel_rfl) (by kernel_rfl) ?hq1031 (Or.inl ⟨?hw1031, ?hy1031⟩) (by assumption) ?rest1031
              case hi1031 => simp only [List.getElem?_toArray, List.getElem?_cons_succ, List.getElem?_cons_zero]; rfl
              case hq1031 => exact fun _ _ _ h => h
              case hw1031 => kernel_rfl
              case hy1031 => (intro w hSw; (try dsimp only at hSw); go_simp; try with_reducible rfl)
              try simp only [Act.put, List.setIfInBounds_toArray, List.set_cons_zero, List.set_cons_succ]
              refine wpAnyH_take (i := 15) (oi := ?oi1032) (v := ?v1032) ?hi1032 (by kernel_rfl) (by kernel_rfl) (by kernel_rfl) ?hq1032 (Or.inl ⟨?hw1032, ?hy1032⟩) (by assumption) ?rest1032
              case hi1032 => simp only [List.getElem?_toArray, List.getElem?_cons_succ, List.getElem?_cons_zero]; rfl
              case hq1032 => exact fun _ _ _ h => h
              case hw1032 => kernel_rfl
              case hy1032 => (intro w hSw; (try dsimp only at hSw); go_simp; try with_reducible rfl)
              try simp only [Act.put, List.setIfInBounds_toArray, List.set_cons_zero, List.set_cons_succ]
              refine wpAnyH_done (by kernel_rfl) ?_ _
              have HBE := Lib.hid (hHeld.2.2.2.2.2.2)
              clear hHeld
              go_wp2_with fail
              go_ret
              exact ⟨rfl, HB8.out.trans ((HBr.out.trans (HBE.out.mono HBr.out.size)).mono HB8.out.size)⟩
            · first | have t1 : decide (0 ≤ m) = false := (by simp; omega) | skip
              first | have t1 : decide (0 ≤ m) = true := (by simp; omega) | skip
              first | have t2 : decide (m < c.muts) = false := (by simp; omega) | skip
              first | have t2 : decide (m < c.muts) = true := (by simp; omega) | skip
              first | have t3 : decide ((k : Int) < c.regs) = false := (by simp; omega) | skip
              go_wp2_with fail
              refine wp_region_held_drew (S := (fun W => W.cell? ⟨w.heap.size, 0, none⟩ = some (.int .i64 c.cells) ∧ W.cell? ⟨w.heap.size, 1, none⟩ = some (.int .i64 c.muts) ∧ W.cell? ⟨w.heap.size, 2, none⟩ = some (.int .i64 c.regs) ∧ W.cell? ⟨w.heap.size, 3, none⟩ = some (.int .i64 c.globs) ∧ W.cell? ⟨bp, 0, none⟩ = some (.slice PA (prsOf c xs).n cA) ∧ W.cell? ⟨bp, 1, none⟩ = some (.slice PD (prsOf c xs).n cD) ∧ Below wr.heap.size wr W)) (by kernel_rfl) ?_ (fun hHeld => ?_)
              · exact HS3.out _ (Below.refl _ _).drew
              refine wpAnyH_take (i := 0) (oi := ?oi1033) (v := ?v1033) ?hi1033 (by kernel_rfl) (by kernel_rfl) (by kernel_rfl) ?hq1033 (Or.inl ⟨?hw1033, ?hy1033⟩) (by assumption) ?rest1033
              case hi1033 => simp only [List.getElem?_toArray, List.getElem?_cons_succ, List.getElem?_cons_zero]; rfl
              case hq1033 => exact fun _ _ _ h => h
              case hw1033 => kernel_rfl
              case hy1033 => (intro w hSw; (try dsimp only at hSw); go_simp; try with_reducible rfl)
              try simp only [Act.put, List.setIfInBounds_toArray, List.set_cons_zero, List.set_cons_succ]
              refine wpAnyH_take (i := 1) (oi := ?oi1034) (v := ?v1034) ?hi1034 (by kernel_rfl) (by kernel_rfl) (by kernel_rfl) ?hq1034 (Or.inl ⟨?hw1034, ?hy1034⟩) (by assumption) ?rest1034
              case hi1034 => simp only [List.getElem?_toArray, List.getElem?_cons_succ, List.getElem?_cons_zero]; rfl
              case hq1034 => exact fun _ _ _ h => h
              case hw1034 => kernel_rfl
              case hy1034 => (intro w hSw; (try dsimp only at hSw); go_simp; try with_reducible rfl)
              try simp only [Act.put, List.setIfInBounds_toArray, List.set_cons_zero, List.set_cons_succ]
              refine wpAnyH_take (i := 2) (oi := ?oi1035) (v := ?v1035) ?hi1035 (by kernel_rfl) (by kernel_rfl) (by kernel_rfl) ?hq1035 (Or.inl ⟨?hw1035, ?hy1035⟩) (by assumption) ?rest1035
              case hi1035 => simp only [List.getElem?_toArray, List.getElem?_cons_succ, List.getElem?_cons_zero]; rfl
              case hq1035 => exact fun _ _ _ h => h
              case hw1035 => kernel_rfl
              case hy1035 => (intro w hSw; (try dsimp only at hSw); go_simp; try with_reducible rfl)
              try simp only [Act.put, List.setIfInBounds_toArray, List.set_cons_zero, List.set_cons_succ]
              refine wpAnyH_take (i := 3) (oi := ?oi1036) (v := ?v1036) ?hi1036 (by kernel_rfl) (by kernel_rfl) (by kernel_rfl) ?hq1036 (Or.inl ⟨?hw1036, ?hy1036⟩) (by assumption) ?rest1036
              case hi1036 => simp only [List.getElem?_toArray, List.getElem?_cons_succ, List.getElem?_cons_zero]; rfl
              case hq1036 => exact fun _ _ _ h => h
              case hw1036 => kernel_rfl
              case hy1036 => (intro w hSw; (try dsimp only at hSw); go_simp; try with_reducible rfl)
              try simp only [Act.put, List.setIfInBounds_toArray, List.set_cons_zero, List.set_cons_succ]
              refine wpAnyH_take (i := 5) (oi := ?oi1037) (v := ?v1037) ?hi1037 (by kernel_rfl) (by kernel_rfl) (by kernel_rfl) ?hq1037 (Or.inl ⟨?hw1037, ?hy1037⟩) (by assumption) ?rest1037
              case hi1037 => simp only [List.getElem?_toArray, List.getElem?_cons_succ, List.getElem?_cons_zero]; rfl
              case hq1037 => exact fun _ _ _ h => h
              case hw1037 => kernel_rfl
              case hy1037 => (intro w hSw; (try dsimp only at hSw); go_simp; try with_reducible rfl)
              try simp only [Act.put, List.setIfInBounds_toArray, List.set_cons_zero, List.set_cons_succ]
              refine wpAnyH_take (i := 6) (oi := ?oi1038) (v := ?v1038) ?hi1038 (by kernel_rfl) (by kernel_rfl) (by kernel_rfl) ?hq1038 (Or.inl ⟨?hw1038, ?hy1038⟩) (by assumption) ?rest1038
              case hi1038 => simp only [List.getElem?_toArray, List.getElem?_cons_succ, List.getElem?_cons_zero]; rfl
              case hq1038 => exact fun _ _ _ h => h
              case hw1038 => kernel_rfl
              case hy1038 => (intro w hSw; (try dsimp only at hSw); go_simp; try with_reducible rfl)
              try simp only [Act.put, List.setIfInBounds_toArray, List.set_cons_zero, List.set_cons_succ]
              refine wpAnyH_take (i := 7) (oi := ?oi1039) (v := ?v1039) ?hi1039 (by kernel_rfl) (by kernel_rfl) (by kernel_rfl) ?hq1039 (Or.inl ⟨?hw1039, ?hy1039⟩) (by assumption) ?rest1039
              case hi1039 => simp only [List.getElem?_toArray, List.getElem?_cons_succ, List.getElem?_cons_zero]; rfl
              case hq1039 => exact fun _ _ _ h => h
              case hw1039 => kernel_rfl
              case hy1039 => (intro w hSw; (try dsimp only at hSw); go_simp; try with_reducible rfl)
              try simp only [Act.put, List.setIfInBounds_toArray, List.set_cons_zero, List.set_cons_succ]
              refine wpAnyH_ready (rs := [4]) (by kernel_rfl) (by simp) ?_
              refine AllReadyH.cons (o := ?o1040) ?ho1040 (fun K hK => ?st1040) AllReadyH.nil
              case ho1040 => simp only [List.getElem?_toArray, List.getElem?_cons_succ, List.getElem?_cons_zero]; rfl
              go_simp
              go_at_call 14
              refine (HW14.out _ (hHeld.2.2.2.2.2.2)).mono ?_
              rintro e wp ⟨rfl, hb2⟩
              have hBel := Below.trans hHeld.2.2.2.2.2.2 (hb2.mono (Below.size hHeld.2.2.2.2.2.2))
              clear hHeld
              try go_simp
              refine hK.out _ _ ?_ (fun hHeld => ?_)
              · exact HS3.out _ hBel
              clear hK K hb2 hBel
              try simp only [Act.put, List.setIfInBounds_toArray, List.set_cons_zero, List.set_cons_succ]
              refine wpAnyH_ready (rs := [8]) (by kernel_rfl) (by simp) ?_
              refine AllReadyH.cons (o := ?o1041) ?ho1041 (fun K hK => ?st1041) AllReadyH.nil
              case ho1041 => simp only [List.getElem?_toArray, List.getElem?_cons_succ, List.getElem?_cons_zero]; rfl
              go_simp
              go_at_call 16
              refine (HW16.out _ (hHeld.2.2.2.2.2.2)).mono ?_
              rintro e wp ⟨rfl, hb2⟩
              have hBel := Below.trans hHeld.2.2.2.2.2.2 (hb2.mono (Below.size hHeld.2.2.2.2.2.2))
              clear hHeld
              try go_simp
              refine hK.out _ _ ?_ (fun hHeld => ?_)
              · exact HS3.out _ hBel
              clear hK K hb2 hBel
              try simp only [Act.put, List.setIfInBounds_toArray, List.set_cons_zero, List.set_cons_succ]
              refine wpAnyH_take (i := 9) (oi := ?oi1042) (v := ?v1042) ?hi1042 (by kernel_rfl) (by kernel_rfl) (by kernel_rfl) ?hq1042 (Or.inl ⟨?hw1042, ?hy1042⟩) (by assumption) ?rest1042
              case hi1042 => simp only [List.getElem?_toArray, List.getElem?_cons_succ, List.getElem?_cons_zero]; rfl
              case hq1042 => exact fun _ _ _ h => h
              case hw1042 => kernel_rfl
              case hy1042 => (intro w hSw; (try dsimp only at hSw); go_simp; try with_reducible rfl)
              try simp only [Act.put, List.setIfInBounds_toArray, List.set_cons_zero, List.set_cons_succ]
              refine wpAnyH_take (i := 10) (oi := ?oi1043) (v := ?v1043) ?hi1043 (by kernel_rfl) (by kernel_rfl) (by kernel_rfl) ?hq1043 (Or.inl ⟨?hw1043, ?hy1043⟩) (by assumption) ?rest1043
              case hi1043 => simp only [List.getElem?_toArray, List.getElem?_cons_succ, List.getElem?_cons_zero]; rfl
              case hq1043 => exact fun _ _ _ h => h
              case hw1043 => kernel_rfl
              case hy1043 => (intro w hSw; (try dsimp only at hSw); go_simp; try with_reducible rfl)
              try simp only [Act.put, List.setIfInBounds_toArray, List.set_cons_zero, List.set_cons_succ]
              refine wpAnyH_take (i := 11) (oi := ?oi1044) (v := ?v1044) ?hi1044 (by kernel_rfl) (by kernel_rfl) (by kernel_rfl) ?hq1044 (Or.inl ⟨?hw1044, ?hy1044⟩) (by assumption) ?rest1044
              case hi1044 => simp only [List.getElem?_toArray, List.getElem?_cons_succ, List.getElem?_cons_zero]; rfl
              case hq1044 => exact fun _ _ _ h => h
              case hw1044 => kernel_rfl
              case hy1044 => (intro w hSw; (try dsimp only at hSw); go_simp; try with_reducible rfl)
              try simp only [Act.put, List.setIfInBounds_toArray, List.set_cons_zero, List.set_cons_succ]
              refine wpAnyH_take (i := 12) (oi := ?oi1045) (v := ?v1045) ?hi1045 (by kernel_rfl) (by kernel_rfl) (by kernel_rfl) ?hq1045 (Or.inl ⟨?hw1045, ?hy1045⟩) (by assumption) ?rest1045
              case hi1045 => simp only [List.getElem?_toArray, List.getElem?_cons_succ, List.getElem?_cons_zero]; rfl
              case hq1045 => exact fun _ _ _ h => h
              case hw1045 => kernel_rfl
              case hy1045 => (intro w hSw; (try dsimp only at hSw); go_simp; try with_reducible rfl)
              try simp only [Act.put, List.setIfInBounds_toArray, List.set_cons_zero, List.set_cons_succ]
              refine wpAnyH_ready (rs := [13]) (by kernel_rfl) (by simp) ?_
              refine AllReadyH.cons (o := ?o1046) ?ho1046 (fun K hK => ?st1046) AllReadyH.nil
              case ho1046 => simp only [List.getElem?_toArray, List.getElem?_cons_succ, List.getElem?_cons_zero]; rfl
              go_simp
              go_at_call 18
              refine (HW18.out _ (hHeld.2.2.2.2.2.2)).mono ?_
              rintro e wp ⟨rfl, hb2⟩
              have hBel := Below.trans hHeld.2.2.2.2.2.2 (hb2.mono (Below.size hHeld.2.2.2.2.2.2))
              clear hHeld
              try go_simp
              refine hK.out _ _ ?_ (fun hHeld => ?_)
              · exact HS3.out _ hBel
              clear hK K hb2 hBel
              try simp only [Act.put, List.setIfInBounds_toArray, List.set_cons_zero, List.set_cons_succ]
              refine wpAnyH_take (i := 14) (oi := ?oi1047) (v := ?v1047) ?hi1047 (by kernel_rfl) (by kernel_rfl) (by kernel_rfl) ?hq1047 (Or.inl ⟨?hw1047, ?hy1047⟩) (by assumption) ?rest1047
              case hi1047 => simp only [List.getElem?_toArray, List.getElem?_cons_succ, List.getElem?_cons_zero]; rfl
              case hq1047 => exact fun _ _ _ h => h
              case hw1047 => kernel_rfl
              case hy1047 => (intro w hSw; (try dsimp only at hSw); go_simp; try with_reducible rfl)
              try simp only [Act.put, List.setIfInBounds_toArray, List.set_cons_zero, List.set_cons_succ]
              refine wpAnyH_take (i := 15) (oi := ?oi1048) (v := ?v1048) ?hi1048 (by kernel_rfl) (by kernel_rfl) (by kernel_rfl) ?hq1048 (Or.inl ⟨?hw1048, ?hy1048⟩) (by assumption) ?rest1048
              case hi1048 => simp only [List.getElem?_toArray, List.getElem?_cons_succ, List.getElem?_cons_zero]; rfl
              case hq1048 => exact fun _ _ _ h => h
              case hw1048 => kernel_rfl
              case hy1048 => (intro w hSw; (try dsimp only at hSw); go_simp; try with_reducible rfl)
              try simp only [Act.put, List.setIfInBounds_toArray, List.set_cons_zero, List.set_cons_succ]
              refine wpAnyH_done (by kernel_rfl) ?_ _
              have HBE := Lib.hid (hHeld.2.2.2.2.2.2)
              clear hHeld
              go_wp2_with fail
              go_ret
              exact ⟨rfl, HB8.out.trans ((HBr.out.trans (HBE.out.mono HBr.out.size)).mono HB8.out.size)⟩
          case pos =>
            obtain ⟨⟨hm0, hm1⟩, hkr⟩ := hin
            obtain ⟨j, hj9⟩ : ∃ j, j = (5 + c.muts + c.globs + m * c.regs + (k : Int)).toNat := ⟨_, rfl⟩
            have hmr := c.mr HOK.out
            have hmm : m * c.regs + c.regs ≤ c.muts * c.regs := by
              have h := Int.mul_le_mul_of_nonneg_right (show m + 1 ≤ c.muts by omega) (show 0 ≤ c.regs by omega)
              rw [Int.add_mul, Int.one_mul] at h
              exact h
            have hmz : 0 ≤ m * c.regs := Int.mul_nonneg hm0 (by omega)
            have hjw : j < xs.length := by
              have h := HN.out
              unfold Cfg.words Cfg.roots at h
              rw [if_pos HOK.out, if_pos HOK.out] at h
              omega
            have HRG : Hid (∀ W, Calls Tryd.prog 17 #[c.v, .agg #[.int .i64 3, .int .i64 m, .int .i64 (k : Int)]] W fun e w' => e = .returned (.int .i64 (j : Int)) ∧ Below W.heap.size W w') := fun W => by
              have h := refat_any W c 3 m (k : Int) (by omega)
              rw [show c.refAt 3 m (k : Int) = (j : Int) by
                unfold Cfg.refAt
                rw [if_pos ⟨HOK.out, hm0, by omega⟩, if_neg (by decide), if_neg (by decide), if_pos rfl, if_pos ⟨hm1, hkr⟩]
                omega] at h
              exact h
            have HNX : Hid (regTxts c xs m most (k + 1) = regTxts c xs m most k ++ [wtxt (prsOf c xs) (wd xs j) most]) := by
              unfold Hid
              rw [regTxts_next, ← hj9]
            have HWR : Hid (∀ W, Below W8.heap.size W8 W → Calls Tryd.prog 16 #[.agg #[.slice PA (prsOf c xs).n cA, .slice PD (prsOf c xs).n cD], .int .u64 (wd xs j), .int .i64 most] W fun e w' => e = .returned (.string (wtxt (prsOf c xs) (wd xs j) most)) ∧ Below W.heap.size W w') := fun W hW => by
              exact refwrite_any W bp PA PD cA cD (prsOf c xs) (wd xs j) most (prsOf_fits c xs HOK.out HWX.out) (wd_ok HWX.out j) (Nat.le_trans (Nat.le_of_lt hbp) hW.size) (HP8.out.below (hW.mono (Nat.le_of_lt hbp)))
            have HKL : Hid (k < 64) := by unfold Hid; omega
            have t1 : decide (0 ≤ m) = true := by simp; omega
            have t2 : decide (m < c.muts) = true := by simp; omega
            have t3 : decide ((k : Int) < c.regs) = true := by simp; omega
            clear hj9 hmr hmm hmz
            generalize wtxt (prsOf c xs) (wd xs j) most = tx at *
            obtain ⟨ad, rfl, hadB, hca⟩ := HXS.out.cell (Below.refl _ _) hjw
            have HALL2 : Hid (∀ W, Below W8.heap.size W8 W → W.cell? ⟨w.heap.size, 0, none⟩ = some (.int .i64 c.cells) ∧ W.cell? ⟨w.heap.size, 1, none⟩ = some (.int .i64 c.muts) ∧ W.cell? ⟨w.heap.size, 2, none⟩ = some (.int .i64 c.regs) ∧ W.cell? ⟨w.heap.size, 3, none⟩ = some (.int .i64 c.globs) ∧ W.cell? ⟨bp, 0, none⟩ = some (.slice PA (prsOf c xs).n cA) ∧ W.cell? ⟨bp, 1, none⟩ = some (.slice PD (prsOf c xs).n cD) ∧ W.cell? (ad.add j) = some (.int .u64 (wd xs j)) ∧ Below W8.heap.size W8 W) := fun W hW => by
              obtain ⟨l0, l1, l2, l3, l4, l5⟩ := HALL.out W hW
              exact ⟨l0, l1, l2, l3, l4, l5, ((HB8.out.trans (hW.mono HB8.out.size)).cell (by rw [block_of_add]; omega)).trans hca, hW⟩
            obtain ⟨q0, q1, q2, q3, q4, q5⟩ := HALL.out wr HBr.out
            have i1 : (0 : Int) ≤ (j : Int) := by omega
            have i2 : (j : Int) < (xs.length : Int) := by omega
            have i3 : (0 : Int) ≤ (k : Int) := by omega
            have sk2 : IntKind.i64.wrap ((k : Int) + 1) = (k : Int) + 1 := IntWalk.i64_in _ (by omega)
            have HNIN : Hid (0 ≤ m ∧ m < c.muts) := ⟨hm0, hm1⟩
            clear hca hadB
            go_wp2_with fail
            refine wp_region_held_drew (S := (fun W => W.cell? ⟨w.heap.size, 0, none⟩ = some (.int .i64 c.cells) ∧ W.cell? ⟨w.heap.size, 1, none⟩ = some (.int .i64 c.muts) ∧ W.cell? ⟨w.heap.size, 2, none⟩ = some (.int .i64 c.regs) ∧ W.cell? ⟨w.heap.size, 3, none⟩ = some (.int .i64 c.globs) ∧ W.cell? ⟨bp, 0, none⟩ = some (.slice PA (prsOf c xs).n cA) ∧ W.cell? ⟨bp, 1, none⟩ = some (.slice PD (prsOf c xs).n cD) ∧ W.cell? (ad.add j) = some (.int .u64 (wd xs j)) ∧ Below W8.heap.size W8 W)) (by kernel_rfl) ?_ (fun hHeld => ?_)
            · exact HALL2.out _ HBr.out.drew
            refine wpAnyH_take (i := 0) (oi := ?oi1049) (v := ?v1049) ?hi1049 (by kernel_rfl) (by kernel_rfl) (by kernel_rfl) ?hq1049 (Or.inl ⟨?hw1049, ?hy1049⟩) (by assumption) ?rest1049
            case hi1049 => simp only [List.getElem?_toArray, List.getElem?_cons_succ, List.getElem?_cons_zero]; rfl
            case hq1049 => exact fun _ _ _ h => h
            case hw1049 => kernel_rfl
            case hy1049 => (intro w hSw; (try dsimp only at hSw); go_simp; try with_reducible rfl)
            try simp only [Act.put, List.setIfInBounds_toArray, List.set_cons_zero, List.set_cons_succ]
            refine wpAnyH_take (i := 1) (oi := ?oi1050) (v := ?v1050) ?hi1050 (by kernel_rfl) (by kernel_rfl) (by kernel_rfl) ?hq1050 (Or.inl ⟨?hw1050, ?hy1050⟩) (by assumption) ?rest1050
            case hi1050 => simp only [List.getElem?_toArray, List.getElem?_cons_succ, List.getElem?_cons_zero]; rfl
            case hq1050 => exact fun _ _ _ h => h
            case hw1050 => kernel_rfl
            case hy1050 => (intro w hSw; (try dsimp only at hSw); go_simp; try with_reducible rfl)
            try simp only [Act.put, List.setIfInBounds_toArray, List.set_cons_zero, List.set_cons_succ]
            refine wpAnyH_take (i := 2) (oi := ?oi1051) (v := ?v1051) ?hi1051 (by kernel_rfl) (by kernel_rfl) (by kernel_rfl) ?hq1051 (Or.inl ⟨?hw1051, ?hy1051⟩) (by assumption) ?rest1051
            case hi1051 => simp only [List.getElem?_toArray, List.getElem?_cons_succ, List.getElem?_cons_zero]; rfl
            case hq1051 => exact fun _ _ _ h => h
            case hw1051 => kernel_rfl
            case hy1051 => (intro w hSw; (try dsimp only at hSw); go_simp; try with_reducible rfl)
            try simp only [Act.put, List.setIfInBounds_toArray, List.set_cons_zero, List.set_cons_succ]
            refine wpAnyH_take (i := 3) (oi := ?oi1052) (v := ?v1052) ?hi1052 (by kernel_rfl) (by kernel_rfl) (by kernel_rfl) ?hq1052 (Or.inl ⟨?hw1052, ?hy1052⟩) (by assumption) ?rest1052
            case hi1052 => simp only [List.getElem?_toArray, List.getElem?_cons_succ, List.getElem?_cons_zero]; rfl
            case hq1052 => exact fun _ _ _ h => h
            case hw1052 => kernel_rfl
            case hy1052 => (intro w hSw; (try dsimp only at hSw); go_simp; try with_reducible rfl)
            try simp only [Act.put, List.setIfInBounds_toArray, List.set_cons_zero, List.set_cons_succ]
            refine wpAnyH_take (i := 4) (oi := ?oi1053) (v := ?v1053) ?hi1053 (by kernel_rfl) (by kernel_rfl) (by kernel_rfl) ?hq1053 (Or.inl ⟨?hw1053, ?hy1053⟩) (by assumption) ?rest1053
            case hi1053 => simp only [List.getElem?_toArray, List.getElem?_cons_succ, List.getElem?_cons_zero]; rfl
            case hq1053 => exact fun _ _ _ h => h
            case hw1053 => kernel_rfl
            case hy1053 => (intro w hSw; (try dsimp only at hSw); go_simp; try with_reducible rfl)
            try simp only [Act.put, List.setIfInBounds_toArray, List.set_cons_zero, List.set_cons_succ]
            refine wpAnyH_take (i := 5) (oi := ?oi1054) (v := ?v1054) ?hi1054 (by kernel_rfl) (by kernel_rfl) (by kernel_rfl) ?hq1054 (Or.inl ⟨?hw1054, ?hy1054⟩) (by assumption) ?rest1054
            case hi1054 => simp only [List.getElem?_toArray, List.getElem?_cons_succ, List.getElem?_cons_zero]; rfl
            case hq1054 => exact fun _ _ _ h => h
            case hw1054 => kernel_rfl
            case hy1054 => (intro w hSw; (try dsimp only at hSw); go_simp; try with_reducible rfl)
            try simp only [Act.put, List.setIfInBounds_toArray, List.set_cons_zero, List.set_cons_succ]
            refine wpAnyH_take (i := 6) (oi := ?oi1055) (v := ?v1055) ?hi1055 (by kernel_rfl) (by kernel_rfl) (by kernel_rfl) ?hq1055 (Or.inl ⟨?hw1055, ?hy1055⟩) (by assumption) ?rest1055
            case hi1055 => simp only [List.getElem?_toArray, List.getElem?_cons_succ, List.getElem?_cons_zero]; rfl
            case hq1055 => exact fun _ _ _ h => h
            case hw1055 => kernel_rfl
            case hy1055 => (intro w hSw; (try dsimp only at hSw); go_simp; try with_reducible rfl)
            try simp only [Act.put, List.setIfInBounds_toArray, List.set_cons_zero, List.set_cons_succ]
            refine wpAnyH_take (i := 10) (oi := ?oi1056) (v := ?v1056) ?hi1056 (by kernel_rfl) (by kernel_rfl) (by kernel_rfl) ?hq1056 (Or.inl ⟨?hw1056, ?hy1056⟩) (by assumption) ?rest1056
            case hi1056 => simp only [List.getElem?_toArray, List.getElem?_cons_succ, List.getElem?_cons_zero]; rfl
            case hq1056 => exact fun _ _ _ h => h
            case hw1056 => kernel_rfl
            case hy1056 => (intro w hSw; (try dsimp only at hSw); go_simp; try with_reducible rfl)
            try simp only [Act.put, List.setIfInBounds_toArray, List.set_cons_zero, List.set_cons_succ]
            refine wpAnyH_ready (rs := [7]) (by kernel_rfl) (by simp) ?_
            refine AllReadyH.cons (o := ?o1057) ?ho1057 (fun K hK => ?st1057) AllReadyH.nil
            case ho1057 => simp only [List.getElem?_toArray, List.getElem?_cons_succ, List.getElem?_cons_zero]; rfl
            go_simp
            go_at_call 17
            refine (HRG.out _).mono ?_
            rintro e wq1 ⟨rfl, hb2⟩
            have HO1 := Lib.hid (ownsRow_belowT (HO.out.drew) hb2)
            have hBel := Below.trans hHeld.2.2.2.2.2.2.2 (hb2.mono (Below.size hHeld.2.2.2.2.2.2.2))
            clear hHeld
            try go_simp
            refine hK.out _ _ ?_ (fun hHeld => ?_)
            · exact HALL2.out _ hBel
            clear hK K hb2 hBel
            try simp only [Act.put, List.setIfInBounds_toArray, List.set_cons_zero, List.set_cons_succ]
            refine wpAnyH_take (i := 8) (oi := ?oi1058) (v := ?v1058) ?hi1058 (by kernel_rfl) (by kernel_rfl) (by kernel_rfl) ?hq1058 (Or.inl ⟨?hw1058, ?hy1058⟩) (by assumption) ?rest1058
            case hi1058 => simp only [List.getElem?_toArray, List.getElem?_cons_succ, List.getElem?_cons_zero]; rfl
            case hq1058 => exact fun _ _ _ h => h
            case hw1058 => kernel_rfl
            case hy1058 => (intro w hSw; (try dsimp only at hSw); go_simp; try with_reducible rfl)
            try simp only [Act.put, List.setIfInBounds_toArray, List.set_cons_zero, List.set_cons_succ]
            refine wpAnyH_take (i := 9) (oi := ?oi1059) (v := ?v1059) ?hi1059 (by kernel_rfl) (by kernel_rfl) (by kernel_rfl) ?hq1059 (Or.inl ⟨?hw1059, ?hy1059⟩) (by assumption) ?rest1059
            case hi1059 => simp only [List.getElem?_toArray, List.getElem?_cons_succ, List.getElem?_cons_zero]; rfl
            case hq1059 => exact fun _ _ _ h => h
            case hw1059 => kernel_rfl
            case hy1059 => (intro w hSw; (try dsimp only at hSw); go_simp; try with_reducible rfl)
            try simp only [Act.put, List.setIfInBounds_toArray, List.set_cons_zero, List.set_cons_succ]
            refine wpAnyH_ready (rs := [11]) (by kernel_rfl) (by simp) ?_
            refine AllReadyH.cons (o := ?o1060) ?ho1060 (fun K hK => ?st1060) AllReadyH.nil
            case ho1060 => simp only [List.getElem?_toArray, List.getElem?_cons_succ, List.getElem?_cons_zero]; rfl
            go_simp
            go_at_call 16
            refine (HWR.out _ (hHeld.2.2.2.2.2.2.2)).mono ?_
            rintro e wp ⟨rfl, hb2⟩
            have HO2 := Lib.hid (ownsRow_belowT HO1.out hb2)
            have hBel := Below.trans hHeld.2.2.2.2.2.2.2 (hb2.mono (Below.size hHeld.2.2.2.2.2.2.2))
            clear hHeld
            try go_simp
            refine hK.out _ _ ?_ (fun hHeld => ?_)
            · exact HALL2.out _ hBel
            clear hK K hb2 hBel
            try simp only [Act.put, List.setIfInBounds_toArray, List.set_cons_zero, List.set_cons_succ]
            refine wpAnyH_ready (rs := [12]) (by kernel_rfl) (by simp) ?_
            refine AllReadyH.cons (o := ?o1061) ?ho1061 (fun K hK => ?st1061) AllReadyH.nil
            case ho1061 => simp only [List.getElem?_toArray, List.getElem?_cons_succ, List.getElem?_cons_zero]; rfl
            go_simp
            have hBel := (hHeld.2.2.2.2.2.2.2).alloc (Below.size (hHeld.2.2.2.2.2.2.2)) (.cells #[.string tx] 9)
            clear hHeld
            refine hK.out _ _ ?_ (fun hHeld => ?_)
            · exact HALL2.out _ hBel
            clear hK K hBel
            try simp only [Act.put, List.setIfInBounds_toArray, List.set_cons_zero, List.set_cons_succ]
            refine wpAnyH_ready (rs := [13]) (by kernel_rfl) (by simp) ?_
            refine AllReadyH.cons (o := ?o1062) ?ho1062 (fun K hK => ?st1062) AllReadyH.nil
            case ho1062 => simp only [List.getElem?_toArray, List.getElem?_cons_succ, List.getElem?_cons_zero]; rfl
            refine step_app_strsR rfl (.tmp 81) (.tmp 93) rfl W8.heap.size _ (regTxts c xs m most k) [tx] rfl (HO2.out.alloc _) _ _ 1 1 [.string tx] rfl (reads_one _ _ _) rfl rfl (by rw [regTxts_len]; simp; omega) (Below.size (hHeld.2.2.2.2.2.2.2)) ?_
            intro v9 w9 hown9 hb9
            have HO9 := Lib.hid hown9
            have hBel := (hHeld.2.2.2.2.2.2.2).trans hb9
            clear hown9 hb9 hHeld
            refine hK.out _ _ ?_ (fun hHeld => ?_)
            · exact HALL2.out _ hBel
            clear hK K hBel
            try simp only [Act.put, List.setIfInBounds_toArray, List.set_cons_zero, List.set_cons_succ]
            refine wpAnyH_take (i := 14) (oi := ?oi1063) (v := ?v1063) ?hi1063 (by kernel_rfl) (by kernel_rfl) (by kernel_rfl) ?hq1063 (Or.inl ⟨?hw1063, ?hy1063⟩) (by assumption) ?rest1063
            case hi1063 => simp only [List.getElem?_toArray, List.getElem?_cons_succ, List.getElem?_cons_zero]; rfl
            case hq1063 => exact fun _ _ _ h => h
            case hw1063 => kernel_rfl
            case hy1063 => (intro w hSw; (try dsimp only at hSw); go_simp; try with_reducible rfl)
            try simp only [Act.put, List.setIfInBounds_toArray, List.set_cons_zero, List.set_cons_succ]
            refine wpAnyH_done (by kernel_rfl) ?_ _
            have HB9 := Lib.hid (hHeld.2.2.2.2.2.2.2)
            clear hHeld
            go_wp2_with fail
            go_roundw
            case rel => exact ⟨k + 1, by omega, by go_num, fun _ => HNIN.out, by rw [HNX.out]; exact HO9, HB9⟩
            case measure => (simp [intOf] <;> omega)
  · have hBel := hHeld.2.2.2.2
    have HB3 : Hid (Below w.heap.size w _) := HB2.out.trans (Below.mono hBel HB2.out.size)
    have HC3 := Lib.hid ((Below.block hBel _ (block_lt HC2.out)).trans HC2.out)
    have hz3 := HB3.out.size
    clear hBel HALL hHeld
    go_wp2_with fail
    refine (sregs_any _ w.heap.size c A xs cp _ nm nm _ _ _ _ _ _ _ _ _ _ m most hz3 (HXS.out.below HB3.out) HWX.out (HT.out.below (Nat.le_refl _) HB3.out) HNM.out).mono ?_
    rintro e w4 ⟨⟨GA, gc, rfl, hG⟩, hb4⟩
    have HB4 : Hid (Below w.heap.size w w4) := HB3.out.trans (hb4.mono hz3)
    have HC4 := Lib.hid ((hb4.block _ (block_lt HC3.out)).trans HC3.out)
    have HG := Lib.hid hG
    clear hb4 hG HB3 HC3 hz3 HC2 HB2 q0 q1 q2 q3 hnm hmk d2 d3
    obtain ⟨q0, q1, q2, q3⟩ := Cfg.cells_at HC4.out
    go_wp2_with fail
    refine (refright_any _ c).mono ?_
    rintro e w5 ⟨rfl, hb5⟩
    have HB5 : Hid (Below w.heap.size w w5) := HB4.out.trans (hb5.mono HB4.out.size)
    have HC5 := Lib.hid ((hb5.block _ (block_lt HC4.out)).trans HC4.out)
    have HG5 := Lib.hid (strs_more29 (HG.out.below hb5) hb5.size)
    clear hb5 HB4 HC4 HG q0 q1 q2 q3
    obtain ⟨q0, q1, q2, q3⟩ := Cfg.cells_at HC5.out
    by_cases ok : c.ok = true
    case neg =>
      have hok : c.ok = false := by simpa using ok
      have HR : Hid (rightM c xs.length = false) := by unfold Hid rightM; rw [hok]; rfl
      have HGT : Hid (gotT c xs m most = []) := if_neg (fun h => by rw [HR.out] at h; simp at h)
      have HGW : Hid (gotW c xs x most = ⟨#[]⟩) := if_neg (fun h => by rw [HR.out] at h; simp at h)
      simp only [hok, HGT.out, List.length_nil]
      clear HG5
      go_wp2_with fail
      refine (write_any _ w.heap.size c A xs cp x most HB5.out.size (HXS.out.below HB5.out) HWX.out HX.out (HT.out.below (Nat.le_refl _) HB5.out)).mono ?_
      rintro e w6 ⟨rfl, hb6⟩
      rw [HGW.out]
      have HB6 : Hid (Below w.heap.size w w6) := HB5.out.trans (hb6.mono HB5.out.size)
      clear hb6
      go_wp2_with fail
      go_ret
      exact ⟨rfl, HB6.out⟩
    case pos =>
      simp only [ok]
      go_wp2_with fail
      refine (refwords_any _ c).mono ?_
      rintro e w6 ⟨rfl, hb6⟩
      have HB6 : Hid (Below w.heap.size w w6) := HB5.out.trans (hb6.mono HB5.out.size)
      have HC6 := Lib.hid ((hb6.block _ (block_lt HC5.out)).trans HC5.out)
      have HG6 := Lib.hid (strs_more29 (HG5.out.below hb6) hb6.size)
      clear hb6 HB5 HC5 HG5 q0 q1 q2 q3
      obtain ⟨q0, q1, q2, q3⟩ := Cfg.cells_at HC6.out
      by_cases hn : (xs.length : Int) = c.words
      case neg =>
        have tn : ((xs.length : Int) != c.words) = true := by simpa using hn
        have HR : Hid (rightM c xs.length = false) := by unfold Hid rightM; rw [ok]; simpa using hn
        have HGT : Hid (gotT c xs m most = []) := if_neg (fun h => by rw [HR.out] at h; simp at h)
        have HGW : Hid (gotW c xs x most = ⟨#[]⟩) := if_neg (fun h => by rw [HR.out] at h; simp at h)
        simp only [tn, HGT.out, List.length_nil]
        clear HG6
        go_wp2_with fail
        refine (write_any _ w.heap.size c A xs cp x most HB6.out.size (HXS.out.below HB6.out) HWX.out HX.out (HT.out.below (Nat.le_refl _) HB6.out)).mono ?_
        rintro e w7 ⟨rfl, hb7⟩
        rw [HGW.out]
        have HB7 : Hid (Below w.heap.size w w7) := HB6.out.trans (hb7.mono HB6.out.size)
        clear hb7
        go_wp2_with fail
        go_ret
        exact ⟨rfl, HB7.out⟩
      case pos =>
        have tn : ((xs.length : Int) != c.words) = false := by simpa using hn
        have HOK := Lib.hid ok
        have HN := Lib.hid hn
        have HRI : Hid (rightM c xs.length = true) := by unfold Hid rightM; rw [ok, hn]; simp
        clear ok hn
        go_wp2_with fail
        refine (memory_any _ w.heap.size c A xs cp HOK.out HN.out HB6.out.size (HXS.out.below HB6.out)).mono ?_
        rintro e w7 ⟨⟨PA, PD, cA, cD, rfl, hP⟩, hb7⟩
        have HB7 : Hid (Below w.heap.size w w7) := HB6.out.trans (hb7.mono HB6.out.size)
        have HC7 := Lib.hid ((hb7.block _ (block_lt HC6.out)).trans HC6.out)
        have HG7 := Lib.hid (strs_more29 (HG6.out.below hb7) hb7.size)
        have HP7 := Lib.hid hP
        clear hb7 HB6 HC6 HG6 q0 q1 q2 q3 hP tn
        obtain ⟨W8, hW8⟩ : ∃ W8, W8 = w7.alloc (.cells #[.slice PA (prsOf c xs).n cA, .slice PD (prsOf c xs).n cD] 40) := ⟨_, rfl⟩
        have hb8 : Below w7.heap.size w7 W8 := by rw [hW8]; exact (Below.refl _ w7).alloc (Nat.le_refl _) _
        have HB8 : Hid (Below w.heap.size w W8) := HB7.out.trans (hb8.mono HB7.out.size)
        have HC8 := Lib.hid ((hb8.block _ (block_lt HC7.out)).trans HC7.out)
        have HPB : Hid (W8.heap[w7.heap.size]? = some (.cells #[.slice PA (prsOf c xs).n cA, .slice PD (prsOf c xs).n cD] 40)) := by rw [hW8]; exact heap_alloc_new w7 _
        have HG8 := Lib.hid (strs_more29 (HG7.out.below hb8) hb8.size)
        have HP8 := Lib.hid (HP7.out.below hb8)
        have hbp : w7.heap.size < W8.heap.size := by rw [hW8]; simp
        have HALL : Hid (∀ W, Below W8.heap.size W8 W → W.cell? ⟨w.heap.size, 0, none⟩ = some (.int .i64 c.cells) ∧ W.cell? ⟨w.heap.size, 1, none⟩ = some (.int .i64 c.muts) ∧ W.cell? ⟨w.heap.size, 2, none⟩ = some (.int .i64 c.regs) ∧ W.cell? ⟨w.heap.size, 3, none⟩ = some (.int .i64 c.globs) ∧ W.cell? ⟨w7.heap.size, 0, none⟩ = some (.slice PA (prsOf c xs).n cA) ∧ W.cell? ⟨w7.heap.size, 1, none⟩ = some (.slice PD (prsOf c xs).n cD)) := fun W hW => by
          obtain ⟨f0, f1, f2, f3⟩ := Cfg.cells_at ((hW.block _ (block_lt HC8.out)).trans HC8.out)
          have hh := (hW.block _ (block_lt HPB.out)).trans HPB.out
          exact ⟨f0, f1, f2, f3, cell_of_block hh 0, cell_of_block hh 1⟩
        obtain ⟨bp, hbp9⟩ : ∃ bp, bp = w7.heap.size := ⟨_, rfl⟩
        rw [← hbp9] at HP8 HALL hbp
        clear hb8 HB7 HC7 HPB HG7 HP7
        go_wp2_with fail
        rw [← hbp9, ← hW8]
        clear hW8 hbp9
        have hrg := HOK.out
        rw [Cfg.ok_iff] at hrg
        obtain ⟨g1, g2, g3, g4, g5, g6, g7, g8⟩ := hrg
        go_loopw [14, 15] (fun v iv wr => ∃ k : Nat, (k : Int) ≤ c.regs ∧ iv = .int .i64 k ∧ Hid (0 < k → 0 ≤ m ∧ m < c.muts) ∧ Hid (wr.ownsRow W8.heap.size 9 1 v (regTxts c xs m most k).length ((regTxts c xs m most k).map Value.string)) ∧ Hid (Below W8.heap.size W8 wr)) (fun _ iv _ => c.regs.toNat - (intOf iv).toNat)
        case atStart => exact ⟨0, by omega, rfl, fun h => absurd h (by omega), own_nil _ _, Below.refl _ _⟩
        case round =>
          obtain ⟨k, hk, rfl, HIN, HO, HBr⟩ := hrel
          by_cases hin : (0 ≤ m ∧ m < c.muts) ∧ (k : Int) < c.regs
          case neg =>
            have HGT : Hid (gotT c xs m most = regTxts c xs m most k) := by
              unfold Hid gotT
              by_cases hh : 0 ≤ m ∧ m < c.muts
              · rw [if_pos ⟨HRI.out, hh⟩]
                have : k = c.regs.toNat := by omega
                rw [this]
              · rw [if_neg (fun h => hh h.2)]
                have : k = 0 := by
                  have := HIN.out
                  omega
                rw [this]
                rfl
            have HGW : Hid (gotW c xs x most = wtxt (prsOf c xs) x most) := if_pos HRI.out
            obtain ⟨q0, q1, q2, q3, _, _⟩ := HALL.out wr HBr.out
            have hcase : m < 0 ∨ (0 ≤ m ∧ c.muts ≤ m) ∨ (0 ≤ m ∧ m < c.muts ∧ c.regs ≤ (k : Int)) := by omega
            obtain ⟨A2, cp2, hv, hcap, hst⟩ := strs_of_own HO.out
            subst hv
            have HST := Lib.hid hst
            clear hin hst hcap HO
            rw [← HGT.out] at HST
            rw [← HGT.out]
            have HL : Hid ((gotT c xs m most).length ≤ 1000) := by unfold Hid; rw [HGT.out, regTxts_len]; omega
            have HS3 : Hid (∀ W, Below wr.heap.size wr W → W.cell? ⟨w.heap.size, 0, none⟩ = some (.int .i64 c.cells) ∧ W.cell? ⟨w.heap.size, 1, none⟩ = some (.int .i64 c.muts) ∧ W.cell? ⟨w.heap.size, 2, none⟩ = some (.int .i64 c.regs) ∧ W.cell? ⟨w.heap.size, 3, none⟩ = some (.int .i64 c.globs) ∧ W.cell? ⟨bp, 0, none⟩ = some (.slice PA (prsOf c xs).n cA) ∧ W.cell? ⟨bp, 1, none⟩ = some (.slice PD (prsOf c xs).n cD) ∧ Below wr.heap.size wr W) := fun W hW => by
              obtain ⟨l0, l1, l2, l3, l4, l5⟩ := HALL.out W (HBr.out.trans (hW.mono HBr.out.size))
              exact ⟨l0, l1, l2, l3, l4, l5, hW⟩
            have HW14 : Hid (∀ W, Below wr.heap.size wr W → Calls Tryd.prog 14 #[c.v, .slice A xs.length cp, .int .u64 x, .int .i64 most] W fun e w' => e = .returned (.string (wtxt (prsOf c xs) x most)) ∧ Below W.heap.size W w') := fun W hW => by
              have hh : Below w.heap.size w W := HB8.out.trans ((HBr.out.trans (hW.mono HBr.out.size)).mono HB8.out.size)
              have h := write_any W w.heap.size c A xs cp x most hh.size (HXS.out.below hh) HWX.out HX.out (HT.out.below (Nat.le_refl _) hh)
              rwa [HGW.out] at h
            have HW16 : Hid (∀ W, Below wr.heap.size wr W → Calls Tryd.prog 16 #[.agg #[.slice PA (prsOf c xs).n cA, .slice PD (prsOf c xs).n cD], .int .u64 x, .int .i64 most] W fun e w' => e = .returned (.string (wtxt (prsOf c xs) x most)) ∧ Below W.heap.size W w') := fun W hW => by
              have hh := HBr.out.trans (hW.mono HBr.out.size)
              exact refwrite_any W bp PA PD cA cD (prsOf c xs) x most (prsOf_fits c xs HOK.out HWX.out) HX.out (Nat.le_trans (Nat.le_of_lt hbp) hh.size) (HP8.out.below (hh.mono (Nat.le_of_lt hbp)))
            have HW18 : Hid (∀ W, Below wr.heap.size wr W → Calls Tryd.prog 18 #[.slice GA (gotT c xs m most).length gc, .slice A2 (gotT c xs m most).length cp2] W fun e w' => e = .returned (.bool true) ∧ Below W.heap.size W w') := fun W hW => by
              have hh := HBr.out.trans (hW.mono HBr.out.size)
              exact reftexts_same W GA A2 gc cp2 (gotT c xs m most) (strs_more29 (HG8.out.below hh) hh.size) (strs_more29 (HST.out.below hW) hW.size) HL.out
            clear HGW
            generalize wtxt (prsOf c xs) x most = T at *
            rcases hcase with h | ⟨h, h'⟩ | ⟨h, h', h''⟩
            · first | have t1 : decide (0 ≤ m) = false := (by simp; omega) | skip
              first | have t1 : decide (0 ≤ m) = true := (by simp; omega) | skip
              first | have t2 : decide (m < c.muts) = false := (by simp; omega) | skip
              first | have t2 : decide (m < c.muts) = true := (by simp; omega) | skip
              first | have t3 : decide ((k : Int) < c.regs) = false := (by simp; omega) | skip
              go_wp2_with fail
              refine wp_region_held_drew (S := (fun W => W.cell? ⟨w.heap.size, 0, none⟩ = some (.int .i64 c.cells) ∧ W.cell? ⟨w.heap.size, 1, none⟩ = some (.int .i64 c.muts) ∧ W.cell? ⟨w.heap.size, 2, none⟩ = some (.int .i64 c.regs) ∧ W.cell? ⟨w.heap.size, 3, none⟩ = some (.int .i64 c.globs) ∧ W.cell? ⟨bp, 0, none⟩ = some (.slice PA (prsOf c xs).n cA) ∧ W.cell? ⟨bp, 1, none⟩ = some (.slice PD (prsOf c xs).n cD) ∧ Below wr.heap.size wr W)) (by kernel_rfl) ?_ (fun hHeld => ?_)
              · exact HS3.out _ (Below.refl _ _).drew
              refine wpAnyH_take (i := 0) (oi := ?oi1064) (v := ?v1064) ?hi1064 (by kernel_rfl) (by kernel_rfl) (by kernel_rfl) ?hq1064 (Or.inl ⟨?hw1064, ?hy1064⟩) (by assumption) ?rest1064
              case hi1064 => simp only [List.getElem?_toArray, List.getElem?_cons_succ, List.getElem?_cons_zero]; rfl
              case hq1064 => exact fun _ _ _ h => h
              case hw1064 => kernel_rfl
              case hy1064 => (intro w hSw; (try dsimp only at hSw); go_simp; try with_reducible rfl)
              try simp only [Act.put, List.setIfInBounds_toArray, List.set_cons_zero, List.set_cons_succ]
              refine wpAnyH_take (i := 1) (oi := ?oi1065) (v := ?v1065) ?hi1065 (by kernel_rfl) (by kernel_rfl) (by kernel_rfl) ?hq1065 (Or.inl ⟨?hw1065, ?hy1065⟩) (by assumption) ?rest1065
              case hi1065 => simp only [List.getElem?_toArray, List.getElem?_cons_succ, List.getElem?_cons_zero]; rfl
              case hq1065 => exact fun _ _ _ h => h
              case hw1065 => kernel_rfl
              case hy1065 => (intro w hSw; (try dsimp only at hSw); go_simp; try with_reducible rfl)
              try simp only [Act.put, List.setIfInBounds_toArray, List.set_cons_zero, List.set_cons_succ]
              refine wpAnyH_take (i := 2) (oi := ?oi1066) (v := ?v1066) ?hi1066 (by kernel_rfl) (by kernel_rfl) (by kernel_rfl) ?hq1066 (Or.inl ⟨?hw1066, ?hy1066⟩) (by assumption) ?rest1066
              case hi1066 => simp only [List.getElem?_toArray, List.getElem?_cons_succ, List.getElem?_cons_zero]; rfl
              case hq1066 => exact fun _ _ _ h => h
              case hw1066 => kernel_rfl
              case hy1066 => (intro w hSw; (try dsimp only at hSw); go_simp; try with_reducible rfl)
              try simp only [Act.put, List.setIfInBounds_toArray, List.set_cons_zero, List.set_cons_succ]
              refine wpAnyH_take (i := 3) (oi := ?oi1067) (v := ?v1067) ?hi1067 (by kernel_rfl) (by kernel_rfl) (by kernel_rfl) ?hq1067 (Or.inl ⟨?hw1067, ?hy1067⟩) (by assumption) ?rest1067
              case hi1067 => simp only [List.getElem?_toArray, List.getElem?_cons_succ, List.getElem?_cons_zero]; rfl
              case hq1067 => exact fun _ _ _ h => h
              case hw1067 => kernel_rfl
              case hy1067 => (intro w hSw; (try dsimp only at hSw); go_simp; try with_reducible rfl)
              try simp only [Act.put, List.setIfInBounds_toArray, List.set_cons_zero, List.set_cons_succ]
              refine wpAnyH_take (i := 5) (oi := ?oi1068) (v := ?v1068) ?hi1068 (by kernel_rfl) (by kernel_rfl) (by kernel_rfl) ?hq1068 (Or.inl ⟨?hw1068, ?hy1068⟩) (by assumption) ?rest1068
              case hi1068 => simp only [List.getElem?_toArray, List.getElem?_cons_succ, List.getElem?_cons_zero]; rfl
              case hq1068 => exact fun _ _ _ h => h
              case hw1068 => kernel_rfl
              case hy1068 => (intro w hSw; (try dsimp only at hSw); go_simp; try with_reducible rfl)
              try simp only [Act.put, List.setIfInBounds_toArray, List.set_cons_zero, List.set_cons_succ]
              refine wpAnyH_take (i := 6) (oi := ?oi1069) (v := ?v1069) ?hi1069 (by kernel_rfl) (by kernel_rfl) (by kernel_rfl) ?hq1069 (Or.inl ⟨?hw1069, ?hy1069⟩) (by assumption) ?rest1069
              case hi1069 => simp only [List.getElem?_toArray, List.getElem?_cons_succ, List.getElem?_cons_zero]; rfl
              case hq1069 => exact fun _ _ _ h => h
              case hw1069 => kernel_rfl
              case hy1069 => (intro w hSw; (try dsimp only at hSw); go_simp; try with_reducible rfl)
              try simp only [Act.put, List.setIfInBounds_toArray, List.set_cons_zero, List.set_cons_succ]
              refine wpAnyH_take (i := 7) (oi := ?oi1070) (v := ?v1070) ?hi1070 (by kernel_rfl) (by kernel_rfl) (by kernel_rfl) ?hq1070 (Or.inl ⟨?hw1070, ?hy1070⟩) (by assumption) ?rest1070
              case hi1070 => simp only [List.getElem?_toArray, List.getElem?_cons_succ, List.getElem?_cons_zero]; rfl
              case hq1070 => exact fun _ _ _ h => h
              case hw1070 => kernel_rfl
              case hy1070 => (intro w hSw; (try dsimp only at hSw); go_simp; try with_reducible rfl)
              try simp only [Act.put, List.setIfInBounds_toArray, List.set_cons_zero, List.set_cons_succ]
              refine wpAnyH_ready (rs := [4]) (by kernel_rfl) (by simp) ?_
              refine AllReadyH.cons (o := ?o1071) ?ho1071 (fun K hK => ?st1071) AllReadyH.nil
              case ho1071 => simp only [List.getElem?_toArray, List.getElem?_cons_succ, List.getElem?_cons_zero]; rfl
              go_simp
              go_at_call 14
              refine (HW14.out _ (hHeld.2.2.2.2.2.2)).mono ?_
              rintro e wp ⟨rfl, hb2⟩
              have hBel := Below.trans hHeld.2.2.2.2.2.2 (hb2.mono (Below.size hHeld.2.2.2.2.2.2))
              clear hHeld
              try go_simp
              refine hK.out _ _ ?_ (fun hHeld => ?_)
              · exact HS3.out _ hBel
              clear hK K hb2 hBel
              try simp only [Act.put, List.setIfInBounds_toArray, List.set_cons_zero, List.set_cons_succ]
              refine wpAnyH_ready (rs := [8]) (by kernel_rfl) (by simp) ?_
              refine AllReadyH.cons (o := ?o1072) ?ho1072 (fun K hK => ?st1072) AllReadyH.nil
              case ho1072 => simp only [List.getElem?_toArray, List.getElem?_cons_succ, List.getElem?_cons_zero]; rfl
              go_simp
              go_at_call 16
              refine (HW16.out _ (hHeld.2.2.2.2.2.2)).mono ?_
              rintro e wp ⟨rfl, hb2⟩
              have hBel := Below.trans hHeld.2.2.2.2.2.2 (hb2.mono (Below.size hHeld.2.2.2.2.2.2))
              clear hHeld
              try go_simp
              refine hK.out _ _ ?_ (fun hHeld => ?_)
              · exact HS3.out _ hBel
              clear hK K hb2 hBel
              try simp only [Act.put, List.setIfInBounds_toArray, List.set_cons_zero, List.set_cons_succ]
              refine wpAnyH_take (i := 9) (oi := ?oi1073) (v := ?v1073) ?hi1073 (by kernel_rfl) (by kernel_rfl) (by kernel_rfl) ?hq1073 (Or.inl ⟨?hw1073, ?hy1073⟩) (by assumption) ?rest1073
              case hi1073 => simp only [List.getElem?_toArray, List.getElem?_cons_succ, List.getElem?_cons_zero]; rfl
              case hq1073 => exact fun _ _ _ h => h
              case hw1073 => kernel_rfl
              case hy1073 => (intro w hSw; (try dsimp only at hSw); go_simp; try with_reducible rfl)
              try simp only [Act.put, List.setIfInBounds_toArray, List.set_cons_zero, List.set_cons_succ]
              refine wpAnyH_take (i := 10) (oi := ?oi1074) (v := ?v1074) ?hi1074 (by kernel_rfl) (by kernel_rfl) (by kernel_rfl) ?hq1074 (Or.inl ⟨?hw1074, ?hy1074⟩) (by assumption) ?rest1074
              case hi1074 => simp only [List.getElem?_toArray, List.getElem?_cons_succ, List.getElem?_cons_zero]; rfl
              case hq1074 => exact fun _ _ _ h => h
              case hw1074 => kernel_rfl
              case hy1074 => (intro w hSw; (try dsimp only at hSw); go_simp; try with_reducible rfl)
              try simp only [Act.put, List.setIfInBounds_toArray, List.set_cons_zero, List.set_cons_succ]
              refine wpAnyH_take (i := 11) (oi := ?oi1075) (v := ?v1075) ?hi1075 (by kernel_rfl) (by kernel_rfl) (by kernel_rfl) ?hq1075 (Or.inl ⟨?hw1075, ?hy1075⟩) (by assumption) ?rest1075
              case hi1075 => simp only [List.getElem?_toArray, List.getElem?_cons_succ, List.getElem?_cons_zero]; rfl
              case hq1075 => exact fun _ _ _ h => h
              case hw1075 => kernel_rfl
              case hy1075 => (intro w hSw; (try dsimp only at hSw); go_simp; try with_reducible rfl)
              try simp only [Act.put, List.setIfInBounds_toArray, List.set_cons_zero, List.set_cons_succ]
              refine wpAnyH_take (i := 12) (oi := ?oi1076) (v := ?v1076) ?hi1076 (by kernel_rfl) (by kernel_rfl) (by kernel_rfl) ?hq1076 (Or.inl ⟨?hw1076, ?hy1076⟩) (by assumption) ?rest1076
              case hi1076 => simp only [List.getElem?_toArray, List.getElem?_cons_succ, List.getElem?_cons_zero]; rfl
              case hq1076 => exact fun _ _ _ h => h
              case hw1076 => kernel_rfl
              case hy1076 => (intro w hSw; (try dsimp only at hSw); go_simp; try with_reducible rfl)
              try simp only [Act.put, List.setIfInBounds_toArray, List.set_cons_zero, List.set_cons_succ]
              refine wpAnyH_ready (rs := [13]) (by kernel_rfl) (by simp) ?_
              refine AllReadyH.cons (o := ?o1077) ?ho1077 (fun K hK => ?st1077) AllReadyH.nil
              case ho1077 => simp only [List.getElem?_toArray, List.getElem?_cons_succ, List.getElem?_cons_zero]; rfl
              go_simp
              go_at_call 18
              refine (HW18.out _ (hHeld.2.2.2.2.2.2)).mono ?_
              rintro e wp ⟨rfl, hb2⟩
              have hBel := Below.trans hHeld.2.2.2.2.2.2 (hb2.mono (Below.size hHeld.2.2.2.2.2.2))
              clear hHeld
              try go_simp
              refine hK.out _ _ ?_ (fun hHeld => ?_)
              · exact HS3.out _ hBel
              clear hK K hb2 hBel
              try simp only [Act.put, List.setIfInBounds_toArray, List.set_cons_zero, List.set_cons_succ]
              refine wpAnyH_take (i := 14) (oi := ?oi1078) (v := ?v1078) ?hi1078 (by kernel_rfl) (by kernel_rfl) (by kernel_rfl) ?hq1078 (Or.inl ⟨?hw1078, ?hy1078⟩) (by assumption) ?rest1078
              case hi1078 => simp only [List.getElem?_toArray, List.getElem?_cons_succ, List.getElem?_cons_zero]; rfl
              case hq1078 => exact fun _ _ _ h => h
              case hw1078 => kernel_rfl
              case hy1078 => (intro w hSw; (try dsimp only at hSw); go_simp; try with_reducible rfl)
              try simp only [Act.put, List.setIfInBounds_toArray, List.set_cons_zero, List.set_cons_succ]
              refine wpAnyH_take (i := 15) (oi := ?oi1079) (v := ?v1079) ?hi1079 (by kernel_rfl) (by kernel_rfl) (by kernel_rfl) ?hq1079 (Or.inl ⟨?hw1079, ?hy1079⟩) (by assumption) ?rest1079
              case hi1079 => simp only [List.getElem?_toArray, List.getElem?_cons_succ, List.getElem?_cons_zero]; rfl
              case hq1079 => exact fun _ _ _ h => h
              case hw1079 => kernel_rfl
              case hy1079 => (intro w hSw; (try dsimp only at hSw); go_simp; try with_reducible rfl)
              try simp only [Act.put, List.setIfInBounds_toArray, List.set_cons_zero, List.set_cons_succ]
              refine wpAnyH_done (by kernel_rfl) ?_ _
              have HBE := Lib.hid (hHeld.2.2.2.2.2.2)
              clear hHeld
              go_wp2_with fail
              go_ret
              exact ⟨rfl, HB8.out.trans ((HBr.out.trans (HBE.out.mono HBr.out.size)).mono HB8.out.size)⟩
            · first | have t1 : decide (0 ≤ m) = false := (by simp; omega) | skip
              first | have t1 : decide (0 ≤ m) = true := (by simp; omega) | skip
              first | have t2 : decide (m < c.muts) = false := (by simp; omega) | skip
              first | have t2 : decide (m < c.muts) = true := (by simp; omega) | skip
              first | have t3 : decide ((k : Int) < c.regs) = false := (by simp; omega) | skip
              go_wp2_with fail
              refine wp_region_held_drew (S := (fun W => W.cell? ⟨w.heap.size, 0, none⟩ = some (.int .i64 c.cells) ∧ W.cell? ⟨w.heap.size, 1, none⟩ = some (.int .i64 c.muts) ∧ W.cell? ⟨w.heap.size, 2, none⟩ = some (.int .i64 c.regs) ∧ W.cell? ⟨w.heap.size, 3, none⟩ = some (.int .i64 c.globs) ∧ W.cell? ⟨bp, 0, none⟩ = some (.slice PA (prsOf c xs).n cA) ∧ W.cell? ⟨bp, 1, none⟩ = some (.slice PD (prsOf c xs).n cD) ∧ Below wr.heap.size wr W)) (by kernel_rfl) ?_ (fun hHeld => ?_)
              · exact HS3.out _ (Below.refl _ _).drew
              refine wpAnyH_take (i := 0) (oi := ?oi1080) (v := ?v1080) ?hi1080 (by kernel_rfl) (by kernel_rfl) (by kernel_rfl) ?hq1080 (Or.inl ⟨?hw1080, ?hy1080⟩) (by assumption) ?rest1080
              case hi1080 => simp only [List.getElem?_toArray, List.getElem?_cons_succ, List.getElem?_cons_zero]; rfl
              case hq1080 => exact fun _ _ _ h => h
              case hw1080 => kernel_rfl
              case hy1080 => (intro w hSw; (try dsimp only at hSw); go_simp; try with_reducible rfl)
              try simp only [Act.put, List.setIfInBounds_toArray, List.set_cons_zero, List.set_cons_succ]
              refine wpAnyH_take (i := 1) (oi := ?oi1081) (v := ?v1081) ?hi1081 (by kernel_rfl) (by kernel_rfl) (by kernel_rfl) ?hq1081 (Or.inl ⟨?hw1081, ?hy1081⟩) (by assumption) ?rest1081
              case hi1081 => simp only [List.getElem?_toArray, List.getElem?_cons_succ, List.getElem?_cons_zero]; rfl
              case hq1081 => exact fun _ _ _ h => h
              case hw1081 => kernel_rfl
              case hy1081 => (intro w hSw; (try dsimp only at hSw); go_simp; try with_reducible rfl)
              try simp only [Act.put, List.setIfInBounds_toArray, List.set_cons_zero, List.set_cons_succ]
              refine wpAnyH_take (i := 2) (oi := ?oi1082) (v := ?v1082) ?hi1082 (by kernel_rfl) (by kernel_rfl) (by kernel_rfl) ?hq1082 (Or.inl ⟨?hw1082, ?hy1082⟩) (by assumption) ?rest1082
              case hi1082 => simp only [List.getElem?_toArray, List.getElem?_cons_succ, List.getElem?_cons_zero]; rfl
              case hq1082 => exact fun _ _ _ h => h
              case hw1082 => kernel_rfl
              case hy1082 => (intro w hSw; (try dsimp only at hSw); go_simp; try with_reducible rfl)
              try simp only [Act.put, List.setIfInBounds_toArray, List.set_cons_zero, List.set_cons_succ]
              refine wpAnyH_take (i := 3) (oi := ?oi1083) (v := ?v1083) ?hi1083 (by kernel_rfl) (by kernel_rfl) (by kernel_rfl) ?hq1083 (Or.inl ⟨?hw1083, ?hy1083⟩) (by assumption) ?rest1083
              case hi1083 => simp only [List.getElem?_toArray, List.getElem?_cons_succ, List.getElem?_cons_zero]; rfl
              case hq1083 => exact fun _ _ _ h => h
              case hw1083 => kernel_rfl
              case hy1083 => (intro w hSw; (try dsimp only at hSw); go_simp; try with_reducible rfl)
              try simp only [Act.put, List.setIfInBounds_toArray, List.set_cons_zero, List.set_cons_succ]
              refine wpAnyH_take (i := 5) (oi := ?oi1084) (v := ?v1084) ?hi1084 (by kernel_rfl) (by kernel_rfl) (by kernel_rfl) ?hq1084 (Or.inl ⟨?hw1084, ?hy1084⟩) (by assumption) ?rest1084
              case hi1084 => simp only [List.getElem?_toArray, List.getElem?_cons_succ, List.getElem?_cons_zero]; rfl
              case hq1084 => exact fun _ _ _ h => h
              case hw1084 => kernel_rfl
              case hy1084 => (intro w hSw; (try dsimp only at hSw); go_simp; try with_reducible rfl)
              try simp only [Act.put, List.setIfInBounds_toArray, List.set_cons_zero, List.set_cons_succ]
              refine wpAnyH_take (i := 6) (oi := ?oi1085) (v := ?v1085) ?hi1085 (by kernel_rfl) (by kernel_rfl) (by kernel_rfl) ?hq1085 (Or.inl ⟨?hw1085, ?hy1085⟩) (by assumption) ?rest1085
              case hi1085 => simp only [List.getElem?_toArray, List.getElem?_cons_succ, List.getElem?_cons_zero]; rfl
              case hq1085 => exact fun _ _ _ h => h
              case hw1085 => kernel_rfl
              case hy1085 => (intro w hSw; (try dsimp only at hSw); go_simp; try with_reducible rfl)
              try simp only [Act.put, List.setIfInBounds_toArray, List.set_cons_zero, List.set_cons_succ]
              refine wpAnyH_take (i := 7) (oi := ?oi1086) (v := ?v1086) ?hi1086 (by kernel_rfl) (by kernel_rfl) (by kernel_rfl) ?hq1086 (Or.inl ⟨?hw1086, ?hy1086⟩) (by assumption) ?rest1086
              case hi1086 => simp only [List.getElem?_toArray, List.getElem?_cons_succ, List.getElem?_cons_zero]; rfl
              case hq1086 => exact fun _ _ _ h => h
              case hw1086 => kernel_rfl
              case hy1086 => (intro w hSw; (try dsimp only at hSw); go_simp; try with_reducible rfl)
              try simp only [Act.put, List.setIfInBounds_toArray, List.set_cons_zero, List.set_cons_succ]
              refine wpAnyH_ready (rs := [4]) (by kernel_rfl) (by simp) ?_
              refine AllReadyH.cons (o := ?o1087) ?ho1087 (fun K hK => ?st1087) AllReadyH.nil
              case ho1087 => simp only [List.getElem?_toArray, List.getElem?_cons_succ, List.getElem?_cons_zero]; rfl
              go_simp
              go_at_call 14
              refine (HW14.out _ (hHeld.2.2.2.2.2.2)).mono ?_
              rintro e wp ⟨rfl, hb2⟩
              have hBel := Below.trans hHeld.2.2.2.2.2.2 (hb2.mono (Below.size hHeld.2.2.2.2.2.2))
              clear hHeld
              try go_simp
              refine hK.out _ _ ?_ (fun hHeld => ?_)
              · exact HS3.out _ hBel
              clear hK K hb2 hBel
              try simp only [Act.put, List.setIfInBounds_toArray, List.set_cons_zero, List.set_cons_succ]
              refine wpAnyH_ready (rs := [8]) (by kernel_rfl) (by simp) ?_
              refine AllReadyH.cons (o := ?o1088) ?ho1088 (fun K hK => ?st1088) AllReadyH.nil
              case ho1088 => simp only [List.getElem?_toArray, List.getElem?_cons_succ, List.getElem?_cons_zero]; rfl
              go_simp
              go_at_call 16
              refine (HW16.out _ (hHeld.2.2.2.2.2.2)).mono ?_
              rintro e wp ⟨rfl, hb2⟩
              have hBel := Below.trans hHeld.2.2.2.2.2.2 (hb2.mono (Below.size hHeld.2.2.2.2.2.2))
              clear hHeld
              try go_simp
              refine hK.out _ _ ?_ (fun hHeld => ?_)
              · exact HS3.out _ hBel
              clear hK K hb2 hBel
              try simp only [Act.put, List.setIfInBounds_toArray, List.set_cons_zero, List.set_cons_succ]
              refine wpAnyH_take (i := 9) (oi := ?oi1089) (v := ?v1089) ?hi1089 (by kernel_rfl) (by kernel_rfl) (by kernel_rfl) ?hq1089 (Or.inl ⟨?hw1089, ?hy1089⟩) (by assumption) ?rest1089
              case hi1089 => simp only [List.getElem?_toArray, List.getElem?_cons_succ, List.getElem?_cons_zero]; rfl
              case hq1089 => exact fun _ _ _ h => h
              case hw1089 => kernel_rfl
              case hy1089 => (intro w hSw; (try dsimp only at hSw); go_simp; try with_reducible rfl)
              try simp only [Act.put, List.setIfInBounds_toArray, List.set_cons_zero, List.set_cons_succ]
              refine wpAnyH_take (i := 10) (oi := ?oi1090) (v := ?v1090) ?hi1090 (by kernel_rfl) (by kernel_rfl) (by kernel_rfl) ?hq1090 (Or.inl ⟨?hw1090, ?hy1090⟩) (by assumption) ?rest1090
              case hi1090 => simp only [List.getElem?_toArray, List.getElem?_cons_succ, List.getElem?_cons_zero]; rfl
              case hq1090 => exact fun _ _ _ h => h
              case hw1090 => kernel_rfl
              case hy1090 => (intro w hSw; (try dsimp only at hSw); go_simp; try with_reducible rfl)
              try simp only [Act.put, List.setIfInBounds_toArray, List.set_cons_zero, List.set_cons_succ]
              refine wpAnyH_take (i := 11) (oi := ?oi1091) (v := ?v1091) ?hi1091 (by kernel_rfl) (by kernel_rfl) (by kernel_rfl) ?hq1091 (Or.inl ⟨?hw1091, ?hy1091⟩) (by assumption) ?rest1091
              case hi1091 => simp only [List.getElem?_toArray, List.getElem?_cons_succ, List.getElem?_cons_zero]; rfl
              case hq1091 => exact fun _ _ _ h => h
              case hw1091 => kernel_rfl
              case hy1091 => (intro w hSw; (try dsimp only at hSw); go_simp; try with_reducible rfl)
              try simp only [Act.put, List.setIfInBounds_toArray, List.set_cons_zero, List.set_cons_succ]
              refine wpAnyH_take (i := 12) (oi := ?oi1092) (v := ?v1092) ?hi1092 (by kernel_rfl) (by kernel_rfl) (by kernel_rfl) ?hq1092 (Or.inl ⟨?hw1092, ?hy1092⟩) (by assumption) ?rest1092
              case hi1092 => simp only [List.getElem?_toArray, List.getElem?_cons_succ, List.getElem?_cons_zero]; rfl
              case hq1092 => exact fun _ _ _ h => h
              case hw1092 => kernel_rfl
              case hy1092 => (intro w hSw; (try dsimp only at hSw); go_simp; try with_reducible rfl)
              try simp only [Act.put, List.setIfInBounds_toArray, List.set_cons_zero, List.set_cons_succ]
              refine wpAnyH_ready (rs := [13]) (by kernel_rfl) (by simp) ?_
              refine AllReadyH.cons (o := ?o1093) ?ho1093 (fun K hK => ?st1093) AllReadyH.nil
              case ho1093 => simp only [List.getElem?_toArray, List.getElem?_cons_succ, List.getElem?_cons_zero]; rfl
              go_simp
              go_at_call 18
              refine (HW18.out _ (hHeld.2.2.2.2.2.2)).mono ?_
              rintro e wp ⟨rfl, hb2⟩
              have hBel := Below.trans hHeld.2.2.2.2.2.2 (hb2.mono (Below.size hHeld.2.2.2.2.2.2))
              clear hHeld
              try go_simp
              refine hK.out _ _ ?_ (fun hHeld => ?_)
              · exact HS3.out _ hBel
              clear hK K hb2 hBel
              try simp only [Act.put, List.setIfInBounds_toArray, List.set_cons_zero, List.set_cons_succ]
              refine wpAnyH_take (i := 14) (oi := ?oi1094) (v := ?v1094) ?hi1094 (by kernel_rfl) (by kernel_rfl) (by kernel_rfl) ?hq1094 (Or.inl ⟨?hw1094, ?hy1094⟩) (by assumption) ?rest1094
              case hi1094 => simp only [List.getElem?_toArray, List.getElem?_cons_succ, List.getElem?_cons_zero]; rfl
              case hq1094 => exact fun _ _ _ h => h
              case hw1094 => kernel_rfl
              case hy1094 => (intro w hSw; (try dsimp only at hSw); go_simp; try with_reducible rfl)
              try simp only [Act.put, List.setIfInBounds_toArray, List.set_cons_zero, List.set_cons_succ]
              refine wpAnyH_take (i := 15) (oi := ?oi1095) (v := ?v1095) ?hi1095 (by kernel_rfl) (by kernel_rfl) (by kernel_rfl) ?hq1095 (Or.inl ⟨?hw1095, ?hy1095⟩) (by assumption) ?rest1095
              case hi1095 => simp only [List.getElem?_toArray, List.getElem?_cons_succ, List.getElem?_cons_zero]; rfl
              case hq1095 => exact fun _ _ _ h => h
              case hw1095 => kernel_rfl
              case hy1095 => (intro w hSw; (try dsimp only at hSw); go_simp; try with_reducible rfl)
              try simp only [Act.put, List.setIfInBounds_toArray, List.set_cons_zero, List.set_cons_succ]
              refine wpAnyH_done (by kernel_rfl) ?_ _
              have HBE := Lib.hid (hHeld.2.2.2.2.2.2)
              clear hHeld
              go_wp2_with fail
              go_ret
              exact ⟨rfl, HB8.out.trans ((HBr.out.trans (HBE.out.mono HBr.out.size)).mono HB8.out.size)⟩
            · first | have t1 : decide (0 ≤ m) = false := (by simp; omega) | skip
              first | have t1 : decide (0 ≤ m) = true := (by simp; omega) | skip
              first | have t2 : decide (m < c.muts) = false := (by simp; omega) | skip
              first | have t2 : decide (m < c.muts) = true := (by simp; omega) | skip
              first | have t3 : decide ((k : Int) < c.regs) = false := (by simp; omega) | skip
              go_wp2_with fail
              refine wp_region_held_drew (S := (fun W => W.cell? ⟨w.heap.size, 0, none⟩ = some (.int .i64 c.cells) ∧ W.cell? ⟨w.heap.size, 1, none⟩ = some (.int .i64 c.muts) ∧ W.cell? ⟨w.heap.size, 2, none⟩ = some (.int .i64 c.regs) ∧ W.cell? ⟨w.heap.size, 3, none⟩ = some (.int .i64 c.globs) ∧ W.cell? ⟨bp, 0, none⟩ = some (.slice PA (prsOf c xs).n cA) ∧ W.cell? ⟨bp, 1, none⟩ = some (.slice PD (prsOf c xs).n cD) ∧ Below wr.heap.size wr W)) (by kernel_rfl) ?_ (fun hHeld => ?_)
              · exact HS3.out _ (Below.refl _ _).drew
              refine wpAnyH_take (i := 0) (oi := ?oi1096) (v := ?v1096) ?hi1096 (by kernel_rfl) (by kernel_rfl) (by kernel_rfl) ?hq1096 (Or.inl ⟨?hw1096, ?hy1096⟩) (by assumption) ?rest1096
              case hi1096 => simp only [List.getElem?_toArray, List.getElem?_cons_succ, List.getElem?_cons_zero]; rfl
              case hq1096 => exact fun _ _ _ h => h
              case hw1096 => kernel_rfl
              case hy1096 => (intro w hSw; (try dsimp only at hSw); go_simp; try with_reducible rfl)
              try simp only [Act.put, List.setIfInBounds_toArray, List.set_cons_zero, List.set_cons_succ]
              refine wpAnyH_take (i := 1) (oi := ?oi1097) (v := ?v1097) ?hi1097 (by kernel_rfl) (by kernel_rfl) (by kernel_rfl) ?hq1097 (Or.inl ⟨?hw1097, ?hy1097⟩) (by assumption) ?rest1097
              case hi1097 => simp only [List.getElem?_toArray, List.getElem?_cons_succ, List.getElem?_cons_zero]; rfl
              case hq1097 => exact fun _ _ _ h => h
              case hw1097 => kernel_rfl
              case hy1097 => (intro w hSw; (try dsimp only at hSw); go_simp; try with_reducible rfl)
              try simp only [Act.put, List.setIfInBounds_toArray, List.set_cons_zero, List.set_cons_succ]
              refine wpAnyH_take (i := 2) (oi := ?oi1098) (v := ?v1098) ?hi1098 (by kernel_rfl) (by kernel_rfl) (by kernel_rfl) ?hq1098 (Or.inl ⟨?hw1098, ?hy1098⟩) (by assumption) ?rest1098
              case hi1098 => simp only [List.getElem?_toArray, List.getElem?_cons_succ, List.getElem?_cons_zero]; rfl
              case hq1098 => exact fun _ _ _ h => h
              case hw1098 => kernel_rfl
              case hy1098 => (intro w hSw; (try dsimp only at hSw); go_simp; try with_reducible rfl)
              try simp only [Act.put, List.setIfInBounds_toArray, List.set_cons_zero, List.set_cons_succ]
              refine wpAnyH_take (i := 3) (oi := ?oi1099) (v := ?v1099) ?hi1099 (by kernel_rfl) (by kernel_rfl) (by kernel_rfl) ?hq1099 (Or.inl ⟨?hw1099, ?hy1099⟩) (by assumption) ?rest1099
              case hi1099 => simp only [List.getElem?_toArray, List.getElem?_cons_succ, List.getElem?_cons_zero]; rfl
              case hq1099 => exact fun _ _ _ h => h
              case hw1099 => kernel_rfl
              case hy1099 => (intro w hSw; (try dsimp only at hSw); go_simp; try with_reducible rfl)
              try simp only [Act.put, List.setIfInBounds_toArray, List.set_cons_zero, List.set_cons_succ]
              refine wpAnyH_take (i := 5) (oi := ?oi1100) (v := ?v1100) ?hi1100 (by kernel_rfl) (by kernel_rfl) (by kernel_rfl) ?hq1100 (Or.inl ⟨?hw1100, ?hy1100⟩) (by assumption) ?rest1100
              case hi1100 => simp only [List.getElem?_toArray, List.getElem?_cons_succ, List.getElem?_cons_zero]; rfl
              case hq1100 => exact fun _ _ _ h => h
              case hw1100 => kernel_rfl
              case hy1100 => (intro w hSw; (try dsimp only at hSw); go_simp; try with_reducible rfl)
              try simp only [Act.put, List.setIfInBounds_toArray, List.set_cons_zero, List.set_cons_succ]
              refine wpAnyH_take (i := 6) (oi := ?oi1101) (v := ?v1101) ?hi1101 (by kernel_rfl) (by kernel_rfl) (by kernel_rfl) ?hq1101 (Or.inl ⟨?hw1101, ?hy1101⟩) (by assumption) ?rest1101
              case hi1101 => simp only [List.getElem?_toArray, List.getElem?_cons_succ, List.getElem?_cons_zero]; rfl
              case hq1101 => exact fun _ _ _ h => h
              case hw1101 => kernel_rfl
              case hy1101 => (intro w hSw; (try dsimp only at hSw); go_simp; try with_reducible rfl)
              try simp only [Act.put, List.setIfInBounds_toArray, List.set_cons_zero, List.set_cons_succ]
              refine wpAnyH_take (i := 7) (oi := ?oi1102) (v := ?v1102) ?hi1102 (by kernel_rfl) (by kernel_rfl) (by kernel_rfl) ?hq1102 (Or.inl ⟨?hw1102, ?hy1102⟩) (by assumption) ?rest1102
              case hi1102 => simp only [List.getElem?_toArray, List.getElem?_cons_succ, List.getElem?_cons_zero]; rfl
              case hq1102 => exact fun _ _ _ h => h
              case hw1102 => kernel_rfl
              case hy1102 => (intro w hSw; (try dsimp only at hSw); go_simp; try with_reducible rfl)
              try simp only [Act.put, List.setIfInBounds_toArray, List.set_cons_zero, List.set_cons_succ]
              refine wpAnyH_ready (rs := [4]) (by kernel_rfl) (by simp) ?_
              refine AllReadyH.cons (o := ?o1103) ?ho1103 (fun K hK => ?st1103) AllReadyH.nil
              case ho1103 => simp only [List.getElem?_toArray, List.getElem?_cons_succ, List.getElem?_cons_zero]; rfl
              go_simp
              go_at_call 14
              refine (HW14.out _ (hHeld.2.2.2.2.2.2)).mono ?_
              rintro e wp ⟨rfl, hb2⟩
              have hBel := Below.trans hHeld.2.2.2.2.2.2 (hb2.mono (Below.size hHeld.2.2.2.2.2.2))
              clear hHeld
              try go_simp
              refine hK.out _ _ ?_ (fun hHeld => ?_)
              · exact HS3.out _ hBel
              clear hK K hb2 hBel
              try simp only [Act.put, List.setIfInBounds_toArray, List.set_cons_zero, List.set_cons_succ]
              refine wpAnyH_ready (rs := [8]) (by kernel_rfl) (by simp) ?_
              refine AllReadyH.cons (o := ?o1104) ?ho1104 (fun K hK => ?st1104) AllReadyH.nil
              case ho1104 => simp only [List.getElem?_toArray, List.getElem?_cons_succ, List.getElem?_cons_zero]; rfl
              go_simp
              go_at_call 16
              refine (HW16.out _ (hHeld.2.2.2.2.2.2)).mono ?_
              rintro e wp ⟨rfl, hb2⟩
              have hBel := Below.trans hHeld.2.2.2.2.2.2 (hb2.mono (Below.size hHeld.2.2.2.2.2.2))
              clear hHeld
              try go_simp
              refine hK.out _ _ ?_ (fun hHeld => ?_)
              · exact HS3.out _ hBel
              clear hK K hb2 hBel
              try simp only [Act.put, List.setIfInBounds_toArray, List.set_cons_zero, List.set_cons_succ]
              refine wpAnyH_take (i := 9) (oi := ?oi1105) (v := ?v1105) ?hi1105 (by kernel_rfl) (by kernel_rfl) (by kernel_rfl) ?hq1105 (Or.inl ⟨?hw1105, ?hy1105⟩) (by assumption) ?rest1105
              case hi1105 => simp only [List.getElem?_toArray, List.getElem?_cons_succ, List.getElem?_cons_zero]; rfl
              case hq1105 => exact fun _ _ _ h => h
              case hw1105 => kernel_rfl
              case hy1105 => (intro w hSw; (try dsimp only at hSw); go_simp; try with_reducible rfl)
              try simp only [Act.put, List.setIfInBounds_toArray, List.set_cons_zero, List.set_cons_succ]
              refine wpAnyH_take (i := 10) (oi := ?oi1106) (v := ?v1106) ?hi1106 (by kernel_rfl) (by kernel_rfl) (by kernel_rfl) ?hq1106 (Or.inl ⟨?hw1106, ?hy1106⟩) (by assumption) ?rest1106
              case hi1106 => simp only [List.getElem?_toArray, List.getElem?_cons_succ, List.getElem?_cons_zero]; rfl
              case hq1106 => exact fun _ _ _ h => h
              case hw1106 => kernel_rfl
              case hy1106 => (intro w hSw; (try dsimp only at hSw); go_simp; try with_reducible rfl)
              try simp only [Act.put, List.setIfInBounds_toArray, List.set_cons_zero, List.set_cons_succ]
              refine wpAnyH_take (i := 11) (oi := ?oi1107) (v := ?v1107) ?hi1107 (by kernel_rfl) (by kernel_rfl) (by kernel_rfl) ?hq1107 (Or.inl ⟨?hw1107, ?hy1107⟩) (by assumption) ?rest1107
              case hi1107 => simp only [List.getElem?_toArray, List.getElem?_cons_succ, List.getElem?_cons_zero]; rfl
              case hq1107 => exact fun _ _ _ h => h
              case hw1107 => kernel_rfl
              case hy1107 => (intro w hSw; (try dsimp only at hSw); go_simp; try with_reducible rfl)
              try simp only [Act.put, List.setIfInBounds_toArray, List.set_cons_zero, List.set_cons_succ]
              refine wpAnyH_take (i := 12) (oi := ?oi1108) (v := ?v1108) ?hi1108 (by kernel_rfl) (by kernel_rfl) (by kernel_rfl) ?hq1108 (Or.inl ⟨?hw1108, ?hy1108⟩) (by assumption) ?rest1108
              case hi1108 => simp only [List.getElem?_toArray, List.getElem?_cons_succ, List.getElem?_cons_zero]; rfl
              case hq1108 => exact fun _ _ _ h => h
              case hw1108 => kernel_rfl
              case hy1108 => (intro w hSw; (try dsimp only at hSw); go_simp; try with_reducible rfl)
              try simp only [Act.put, List.setIfInBounds_toArray, List.set_cons_zero, List.set_cons_succ]
              refine wpAnyH_ready (rs := [13]) (by kernel_rfl) (by simp) ?_
              refine AllReadyH.cons (o := ?o1109) ?ho1109 (fun K hK => ?st1109) AllReadyH.nil
              case ho1109 => simp only [List.getElem?_toArray, List.getElem?_cons_succ, List.getElem?_cons_zero]; rfl
              go_simp
              go_at_call 18
              refine (HW18.out _ (hHeld.2.2.2.2.2.2)).mono ?_
              rintro e wp ⟨rfl, hb2⟩
              have hBel := Below.trans hHeld.2.2.2.2.2.2 (hb2.mono (Below.size hHeld.2.2.2.2.2.2))
              clear hHeld
              try go_simp
              refine hK.out _ _ ?_ (fun hHeld => ?_)
              · exact HS3.out _ hBel
              clear hK K hb2 hBel
              try simp only [Act.put, List.setIfInBounds_toArray, List.set_cons_zero, List.set_cons_succ]
              refine wpAnyH_take (i := 14) (oi := ?oi1110) (v := ?v1110) ?hi1110 (by kernel_rfl) (by kernel_rfl) (by kernel_rfl) ?hq1110 (Or.inl ⟨?hw1110, ?hy1110⟩) (by assumption) ?rest1110
              case hi1110 => simp only [List.getElem?_toArray, List.getElem?_cons_succ, List.getElem?_cons_zero]; rfl
              case hq1110 => exact fun _ _ _ h => h
              case hw1110 => kernel_rfl
              case hy1110 => (intro w hSw; (try dsimp only at hSw); go_simp; try with_reducible rfl)
              try simp only [Act.put, List.setIfInBounds_toArray, List.set_cons_zero, List.set_cons_succ]
              refine wpAnyH_take (i := 15) (oi := ?oi1111) (v := ?v1111) ?hi1111 (by kernel_rfl) (by kernel_rfl) (by kernel_rfl) ?hq1111 (Or.inl ⟨?hw1111, ?hy1111⟩) (by assumption) ?rest1111
              case hi1111 => simp only [List.getElem?_toArray, List.getElem?_cons_succ, List.getElem?_cons_zero]; rfl
              case hq1111 => exact fun _ _ _ h => h
              case hw1111 => kernel_rfl
              case hy1111 => (intro w hSw; (try dsimp only at hSw); go_simp; try with_reducible rfl)
              try simp only [Act.put, List.setIfInBounds_toArray, List.set_cons_zero, List.set_cons_succ]
              refine wpAnyH_done (by kernel_rfl) ?_ _
              have HBE := Lib.hid (hHeld.2.2.2.2.2.2)
              clear hHeld
              go_wp2_with fail
              go_ret
              exact ⟨rfl, HB8.out.trans ((HBr.out.trans (HBE.out.mono HBr.out.size)).mono HB8.out.size)⟩
          case pos =>
            obtain ⟨⟨hm0, hm1⟩, hkr⟩ := hin
            obtain ⟨j, hj9⟩ : ∃ j, j = (5 + c.muts + c.globs + m * c.regs + (k : Int)).toNat := ⟨_, rfl⟩
            have hmr := c.mr HOK.out
            have hmm : m * c.regs + c.regs ≤ c.muts * c.regs := by
              have h := Int.mul_le_mul_of_nonneg_right (show m + 1 ≤ c.muts by omega) (show 0 ≤ c.regs by omega)
              rw [Int.add_mul, Int.one_mul] at h
              exact h
            have hmz : 0 ≤ m * c.regs := Int.mul_nonneg hm0 (by omega)
            have hjw : j < xs.length := by
              have h := HN.out
              unfold Cfg.words Cfg.roots at h
              rw [if_pos HOK.out, if_pos HOK.out] at h
              omega
            have HRG : Hid (∀ W, Calls Tryd.prog 17 #[c.v, .agg #[.int .i64 3, .int .i64 m, .int .i64 (k : Int)]] W fun e w' => e = .returned (.int .i64 (j : Int)) ∧ Below W.heap.size W w') := fun W => by
              have h := refat_any W c 3 m (k : Int) (by omega)
              rw [show c.refAt 3 m (k : Int) = (j : Int) by
                unfold Cfg.refAt
                rw [if_pos ⟨HOK.out, hm0, by omega⟩, if_neg (by decide), if_neg (by decide), if_pos rfl, if_pos ⟨hm1, hkr⟩]
                omega] at h
              exact h
            have HNX : Hid (regTxts c xs m most (k + 1) = regTxts c xs m most k ++ [wtxt (prsOf c xs) (wd xs j) most]) := by
              unfold Hid
              rw [regTxts_next, ← hj9]
            have HWR : Hid (∀ W, Below W8.heap.size W8 W → Calls Tryd.prog 16 #[.agg #[.slice PA (prsOf c xs).n cA, .slice PD (prsOf c xs).n cD], .int .u64 (wd xs j), .int .i64 most] W fun e w' => e = .returned (.string (wtxt (prsOf c xs) (wd xs j) most)) ∧ Below W.heap.size W w') := fun W hW => by
              exact refwrite_any W bp PA PD cA cD (prsOf c xs) (wd xs j) most (prsOf_fits c xs HOK.out HWX.out) (wd_ok HWX.out j) (Nat.le_trans (Nat.le_of_lt hbp) hW.size) (HP8.out.below (hW.mono (Nat.le_of_lt hbp)))
            have HKL : Hid (k < 64) := by unfold Hid; omega
            have t1 : decide (0 ≤ m) = true := by simp; omega
            have t2 : decide (m < c.muts) = true := by simp; omega
            have t3 : decide ((k : Int) < c.regs) = true := by simp; omega
            clear hj9 hmr hmm hmz
            generalize wtxt (prsOf c xs) (wd xs j) most = tx at *
            obtain ⟨ad, rfl, hadB, hca⟩ := HXS.out.cell (Below.refl _ _) hjw
            have HALL2 : Hid (∀ W, Below W8.heap.size W8 W → W.cell? ⟨w.heap.size, 0, none⟩ = some (.int .i64 c.cells) ∧ W.cell? ⟨w.heap.size, 1, none⟩ = some (.int .i64 c.muts) ∧ W.cell? ⟨w.heap.size, 2, none⟩ = some (.int .i64 c.regs) ∧ W.cell? ⟨w.heap.size, 3, none⟩ = some (.int .i64 c.globs) ∧ W.cell? ⟨bp, 0, none⟩ = some (.slice PA (prsOf c xs).n cA) ∧ W.cell? ⟨bp, 1, none⟩ = some (.slice PD (prsOf c xs).n cD) ∧ W.cell? (ad.add j) = some (.int .u64 (wd xs j)) ∧ Below W8.heap.size W8 W) := fun W hW => by
              obtain ⟨l0, l1, l2, l3, l4, l5⟩ := HALL.out W hW
              exact ⟨l0, l1, l2, l3, l4, l5, ((HB8.out.trans (hW.mono HB8.out.size)).cell (by rw [block_of_add]; omega)).trans hca, hW⟩
            obtain ⟨q0, q1, q2, q3, q4, q5⟩ := HALL.out wr HBr.out
            have i1 : (0 : Int) ≤ (j : Int) := by omega
            have i2 : (j : Int) < (xs.length : Int) := by omega
            have i3 : (0 : Int) ≤ (k : Int) := by omega
            have sk2 : IntKind.i64.wrap ((k : Int) + 1) = (k : Int) + 1 := IntWalk.i64_in _ (by omega)
            have HNIN : Hid (0 ≤ m ∧ m < c.muts) := ⟨hm0, hm1⟩
            clear hca hadB
            go_wp2_with fail
            refine wp_region_held_drew (S := (fun W => W.cell? ⟨w.heap.size, 0, none⟩ = some (.int .i64 c.cells) ∧ W.cell? ⟨w.heap.size, 1, none⟩ = some (.int .i64 c.muts) ∧ W.cell? ⟨w.heap.size, 2, none⟩ = some (.int .i64 c.regs) ∧ W.cell? ⟨w.heap.size, 3, none⟩ = some (.int .i64 c.globs) ∧ W.cell? ⟨bp, 0, none⟩ = some (.slice PA (prsOf c xs).n cA) ∧ W.cell? ⟨bp, 1, none⟩ = some (.slice PD (prsOf c xs).n cD) ∧ W.cell? (ad.add j) = some (.int .u64 (wd xs j)) ∧ Below W8.heap.size W8 W)) (by kernel_rfl) ?_ (fun hHeld => ?_)
            · exact HALL2.out _ HBr.out.drew
            refine wpAnyH_take (i := 0) (oi := ?oi1112) (v := ?v1112) ?hi1112 (by kernel_rfl) (by kernel_rfl) (by kernel_rfl) ?hq1112 (Or.inl ⟨?hw1112, ?hy1112⟩) (by assumption) ?rest1112
            case hi1112 => simp only [List.getElem?_toArray, List.getElem?_cons_succ, List.getElem?_cons_zero]; rfl
            case hq1112 => exact fun _ _ _ h => h
            case hw1112 => kernel_rfl
            case hy1112 => (intro w hSw; (try dsimp only at hSw); go_simp; try with_reducible rfl)
            try simp only [Act.put, List.setIfInBounds_toArray, List.set_cons_zero, List.set_cons_succ]
            refine wpAnyH_take (i := 1) (oi := ?oi1113) (v := ?v1113) ?hi1113 (by kernel_rfl) (by kernel_rfl) (by kernel_rfl) ?hq1113 (Or.inl ⟨?hw1113, ?hy1113⟩) (by assumption) ?rest1113
            case hi1113 => simp only [List.getElem?_toArray, List.getElem?_cons_succ, List.getElem?_cons_zero]; rfl
            case hq1113 => exact fun _ _ _ h => h
            case hw1113 => kernel_rfl
            case hy1113 => (intro w hSw; (try dsimp only at hSw); go_simp; try with_reducible rfl)
            try simp only [Act.put, List.setIfInBounds_toArray, List.set_cons_zero, List.set_cons_succ]
            refine wpAnyH_take (i := 2) (oi := ?oi1114) (v := ?v1114) ?hi1114 (by kernel_rfl) (by kernel_rfl) (by kernel_rfl) ?hq1114 (Or.inl ⟨?hw1114, ?hy1114⟩) (by assumption) ?rest1114
            case hi1114 => simp only [List.getElem?_toArray, List.getElem?_cons_succ, List.getElem?_cons_zero]; rfl
            case hq1114 => exact fun _ _ _ h => h
            case hw1114 => kernel_rfl
            case hy1114 => (intro w hSw; (try dsimp only at hSw); go_simp; try with_reducible rfl)
            try simp only [Act.put, List.setIfInBounds_toArray, List.set_cons_zero, List.set_cons_succ]
            refine wpAnyH_take (i := 3) (oi := ?oi1115) (v := ?v1115) ?hi1115 (by kernel_rfl) (by kernel_rfl) (by kernel_rfl) ?hq1115 (Or.inl ⟨?hw1115, ?hy1115⟩) (by assumption) ?rest1115
            case hi1115 => simp only [List.getElem?_toArray, List.getElem?_cons_succ, List.getElem?_cons_zero]; rfl
            case hq1115 => exact fun _ _ _ h => h
            case hw1115 => kernel_rfl
            case hy1115 => (intro w hSw; (try dsimp only at hSw); go_simp; try with_reducible rfl)
            try simp only [Act.put, List.setIfInBounds_toArray, List.set_cons_zero, List.set_cons_succ]
            refine wpAnyH_take (i := 4) (oi := ?oi1116) (v := ?v1116) ?hi1116 (by kernel_rfl) (by kernel_rfl) (by kernel_rfl) ?hq1116 (Or.inl ⟨?hw1116, ?hy1116⟩) (by assumption) ?rest1116
            case hi1116 => simp only [List.getElem?_toArray, List.getElem?_cons_succ, List.getElem?_cons_zero]; rfl
            case hq1116 => exact fun _ _ _ h => h
            case hw1116 => kernel_rfl
            case hy1116 => (intro w hSw; (try dsimp only at hSw); go_simp; try with_reducible rfl)
            try simp only [Act.put, List.setIfInBounds_toArray, List.set_cons_zero, List.set_cons_succ]
            refine wpAnyH_take (i := 5) (oi := ?oi1117) (v := ?v1117) ?hi1117 (by kernel_rfl) (by kernel_rfl) (by kernel_rfl) ?hq1117 (Or.inl ⟨?hw1117, ?hy1117⟩) (by assumption) ?rest1117
            case hi1117 => simp only [List.getElem?_toArray, List.getElem?_cons_succ, List.getElem?_cons_zero]; rfl
            case hq1117 => exact fun _ _ _ h => h
            case hw1117 => kernel_rfl
            case hy1117 => (intro w hSw; (try dsimp only at hSw); go_simp; try with_reducible rfl)
            try simp only [Act.put, List.setIfInBounds_toArray, List.set_cons_zero, List.set_cons_succ]
            refine wpAnyH_take (i := 6) (oi := ?oi1118) (v := ?v1118) ?hi1118 (by kernel_rfl) (by kernel_rfl) (by kernel_rfl) ?hq1118 (Or.inl ⟨?hw1118, ?hy1118⟩) (by assumption) ?rest1118
            case hi1118 => simp only [List.getElem?_toArray, List.getElem?_cons_succ, List.getElem?_cons_zero]; rfl
            case hq1118 => exact fun _ _ _ h => h
            case hw1118 => kernel_rfl
            case hy1118 => (intro w hSw; (try dsimp only at hSw); go_simp; try with_reducible rfl)
            try simp only [Act.put, List.setIfInBounds_toArray, List.set_cons_zero, List.set_cons_succ]
            refine wpAnyH_take (i := 10) (oi := ?oi1119) (v := ?v1119) ?hi1119 (by kernel_rfl) (by kernel_rfl) (by kernel_rfl) ?hq1119 (Or.inl ⟨?hw1119, ?hy1119⟩) (by assumption) ?rest1119
            case hi1119 => simp only [List.getElem?_toArray, List.getElem?_cons_succ, List.getElem?_cons_zero]; rfl
            case hq1119 => exact fun _ _ _ h => h
            case hw1119 => kernel_rfl
            case hy1119 => (intro w hSw; (try dsimp only at hSw); go_simp; try with_reducible rfl)
            try simp only [Act.put, List.setIfInBounds_toArray, List.set_cons_zero, List.set_cons_succ]
            refine wpAnyH_ready (rs := [7]) (by kernel_rfl) (by simp) ?_
            refine AllReadyH.cons (o := ?o1120) ?ho1120 (fun K hK => ?st1120) AllReadyH.nil
            case ho1120 => simp only [List.getElem?_toArray, List.getElem?_cons_succ, List.getElem?_cons_zero]; rfl
            go_simp
            go_at_call 17
            refine (HRG.out _).mono ?_
            rintro e wq1 ⟨rfl, hb2⟩
            have HO1 := Lib.hid (ownsRow_belowT (HO.out.drew) hb2)
            have hBel := Below.trans hHeld.2.2.2.2.2.2.2 (hb2.mono (Below.size hHeld.2.2.2.2.2.2.2))
            clear hHeld
            try go_simp
            refine hK.out _ _ ?_ (fun hHeld => ?_)
            · exact HALL2.out _ hBel
            clear hK K hb2 hBel
            try simp only [Act.put, List.setIfInBounds_toArray, List.set_cons_zero, List.set_cons_succ]
            refine wpAnyH_take (i := 8) (oi := ?oi1121) (v := ?v1121) ?hi1121 (by kernel_rfl) (by kernel_rfl) (by kernel_rfl) ?hq1121 (Or.inl ⟨?hw1121, ?hy1121⟩) (by assumption) ?rest1121
            case hi1121 => simp only [List.getElem?_toArray, List.getElem?_cons_succ, List.getElem?_cons_zero]; rfl
            case hq1121 => exact fun _ _ _ h => h
            case hw1121 => kernel_rfl
            case hy1121 => (intro w hSw; (try dsimp only at hSw); go_simp; try with_reducible rfl)
            try simp only [Act.put, List.setIfInBounds_toArray, List.set_cons_zero, List.set_cons_succ]
            refine wpAnyH_take (i := 9) (oi := ?oi1122) (v := ?v1122) ?hi1122 (by kernel_rfl) (by kernel_rfl) (by kernel_rfl) ?hq1122 (Or.inl ⟨?hw1122, ?hy1122⟩) (by assumption) ?rest1122
            case hi1122 => simp only [List.getElem?_toArray, List.getElem?_cons_succ, List.getElem?_cons_zero]; rfl
            case hq1122 => exact fun _ _ _ h => h
            case hw1122 => kernel_rfl
            case hy1122 => (intro w hSw; (try dsimp only at hSw); go_simp; try with_reducible rfl)
            try simp only [Act.put, List.setIfInBounds_toArray, List.set_cons_zero, List.set_cons_succ]
            refine wpAnyH_ready (rs := [11]) (by kernel_rfl) (by simp) ?_
            refine AllReadyH.cons (o := ?o1123) ?ho1123 (fun K hK => ?st1123) AllReadyH.nil
            case ho1123 => simp only [List.getElem?_toArray, List.getElem?_cons_succ, List.getElem?_cons_zero]; rfl
            go_simp
            go_at_call 16
            refine (HWR.out _ (hHeld.2.2.2.2.2.2.2)).mono ?_
            rintro e wp ⟨rfl, hb2⟩
            have HO2 := Lib.hid (ownsRow_belowT HO1.out hb2)
            have hBel := Below.trans hHeld.2.2.2.2.2.2.2 (hb2.mono (Below.size hHeld.2.2.2.2.2.2.2))
            clear hHeld
            try go_simp
            refine hK.out _ _ ?_ (fun hHeld => ?_)
            · exact HALL2.out _ hBel
            clear hK K hb2 hBel
            try simp only [Act.put, List.setIfInBounds_toArray, List.set_cons_zero, List.set_cons_succ]
            refine wpAnyH_ready (rs := [12]) (by kernel_rfl) (by simp) ?_
            refine AllReadyH.cons (o := ?o1124) ?ho1124 (fun K hK => ?st1124) AllReadyH.nil
            case ho1124 => simp only [List.getElem?_toArray, List.getElem?_cons_succ, List.getElem?_cons_zero]; rfl
            go_simp
            have hBel := (hHeld.2.2.2.2.2.2.2).alloc (Below.size (hHeld.2.2.2.2.2.2.2)) (.cells #[.string tx] 9)
            clear hHeld
            refine hK.out _ _ ?_ (fun hHeld => ?_)
            · exact HALL2.out _ hBel
            clear hK K hBel
            try simp only [Act.put, List.setIfInBounds_toArray, List.set_cons_zero, List.set_cons_succ]
            refine wpAnyH_ready (rs := [13]) (by kernel_rfl) (by simp) ?_
            refine AllReadyH.cons (o := ?o1125) ?ho1125 (fun K hK => ?st1125) AllReadyH.nil
            case ho1125 => simp only [List.getElem?_toArray, List.getElem?_cons_succ, List.getElem?_cons_zero]; rfl
            refine step_app_strsR rfl (.tmp 81) (.tmp 93) rfl W8.heap.size _ (regTxts c xs m most k) [tx] rfl (HO2.out.alloc _) _ _ 1 1 [.string tx] rfl (reads_one _ _ _) rfl rfl (by rw [regTxts_len]; simp; omega) (Below.size (hHeld.2.2.2.2.2.2.2)) ?_
            intro v9 w9 hown9 hb9
            have HO9 := Lib.hid hown9
            have hBel := (hHeld.2.2.2.2.2.2.2).trans hb9
            clear hown9 hb9 hHeld
            refine hK.out _ _ ?_ (fun hHeld => ?_)
            · exact HALL2.out _ hBel
            clear hK K hBel
            try simp only [Act.put, List.setIfInBounds_toArray, List.set_cons_zero, List.set_cons_succ]
            refine wpAnyH_take (i := 14) (oi := ?oi1126) (v := ?v1126) ?hi1126 (by kernel_rfl) (by kernel_rfl) (by kernel_rfl) ?hq1126 (Or.inl ⟨?hw1126, ?hy1126⟩) (by assumption) ?rest1126
            case hi1126 => simp only [List.getElem?_toArray, List.getElem?_cons_succ, List.getElem?_cons_zero]; rfl
            case hq1126 => exact fun _ _ _ h => h
            case hw1126 => kernel_rfl
            case hy1126 => (intro w hSw; (try dsimp only at hSw); go_simp; try with_reducible rfl)
            try simp only [Act.put, List.setIfInBounds_toArray, List.set_cons_zero, List.set_cons_succ]
            refine wpAnyH_done (by kernel_rfl) ?_ _
            have HB9 := Lib.hid (hHeld.2.2.2.2.2.2.2)
            clear hHeld
            go_wp2_with fail
            go_roundw
            case rel => exact ⟨k + 1, by omega, by go_num, fun _ => HNIN.out, by rw [HNX.out]; exact HO9, HB9⟩
            case measure => (simp [intOf] <;> omega)
theorem swrites_walk (w : World) (c : Cfg) (A : Option Addr) (xs : List Int) (cp : Nat) (x m most : Int) (hxs : Words w w.heap.size A xs) (hw : ∀ y ∈ xs, wok y) (hx : wok x) (ht : Tens w) :
    Calls Tryd.prog 3 #[c.v, .slice A xs.length cp, .int .u64 x, .int .i64 m, .int .i64 most] w fun e w' => e = .returned (.bool true) ∧ Below w.heap.size w w' := by
  by_cases h : c.great = true ∨ 400 < xs.length ∨ 60 < most
  · exact swrites_far w c A xs cp x m most ht h
  · exact swrites_near w c A xs cp x m most hxs hw hx ht (by simpa using fun h' => h (Or.inl h')) (by omega) (by omega)
end Go.Proofs.YtipoklnoknkfhaaDoor
