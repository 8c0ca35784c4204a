/- The walk of the law ConfigTells. -/
import Derived.Test.YtcheafeaioflmaaDoorCfgAwake
import Derived.Test.YtcheafeaioflmaaDoorCfgWalk2
import Derived.Test.YtcheafeaioflmaaDoorCfgWalk3
import Derived.Test.YtcheafeaioflmaaDoorRef3Parse
import Derived.Deep.RegionHeld3
namespace Go.Proofs.YtcheafeaioflmaaDoor
open Go Go.RowKit
set_option linter.unusedSimpArgs false
set_option linter.unusedVariables false

theorem ctext_size (c : Cfg) : c.text.size ≤ 1000 := by
  by_cases ok : c.ok = true
  · have h := congrArg List.length (ref3_bytes c ok)
    have ho := c.ok_iff.1 ok
    have z : ∀ n : Nat, n < 100000 → (Lib.decDigits n).length ≤ 20 := fun n hn => by
      have h1 := (dec_size n (by omega)).2
      have h2 := bytes_len (dec n)
      rw [show (dec n).data.toList = Lib.decDigits n by simp [dec]] at h2
      omega
    have z0 := z c.cells.toNat (by omega)
    have z1 := z c.muts.toNat (by omega)
    have z2 := z c.regs.toNat (by omega)
    have z3 := z c.globs.toNat (by omega)
    have hs := bytes_len c.text
    rw [show c.text.data.toList = c.tbytes by simp [Cfg.text]] at hs
    simp only [List.length_append, List.length_cons, List.length_nil] at h
    omega
  · rw [ctext_not ok]
    decide
set_option maxHeartbeats 16000000 in
set_option maxRecDepth 100000 in
theorem ctells_walk (w : World) (c : Cfg) (ht : Tens w) (he : Errs w) (hm : MaxL w) :
    Calls Tryd.prog 7 #[c.v] w fun e w' => e = .returned (.bool true) ∧ Below w.heap.size w w' := by
  have HT := Lib.hid ht
  have HE := Lib.hid he
  have HM := Lib.hid hm
  clear ht he hm
  have HB0 : Hid (Below w.heap.size w (w.alloc c.obj)) := (Below.refl _ _).alloc (Nat.le_refl _) _
  have HC0 := Lib.hid (heap_alloc_new w c.obj)
  have HTX := Lib.hid (fun W a => cfgtext_any W c a)
  have HPA : Hid (∀ W, Tens W → Errs W → MaxL W → Calls Tryd.prog 24 #[.string c.text] W fun e w' => e = .returned (.tuple #[(cread c.text).1.v, .int .i64 (cread c.text).2]) ∧ Below W.heap.size W w') := fun W a b d => cfgparse_any W c.text (ctext_size c) a b d
  rw [cread_text] at HPA
  have HCK := Lib.hid (fun W => check_any W c)
  have HR := Lib.hid (fun W => roots_any W c)
  have HRR := Lib.hid (fun W => refroots_any W c)
  have HW := Lib.hid (fun W => words_any W c)
  have HRW := Lib.hid (fun W => refwords_any W c)
  have HO := Lib.hid (fun W => oprounds_any W c)
  have HCY := Lib.hid (fun W => cycrounds_any W c)
  have HTR := Lib.hid (fun W => ref3text_any W c)
  go_enter Tryd.func7, Tryd.ntmps7
  go_wp2_with fail
  refine (cfg_awake _ (HT.out.below (Nat.le_refl _) HB0.out) (HE.out.below (Nat.le_refl _) HB0.out) (HM.out.below (Nat.le_refl _) HB0.out)).mono ?_
  rintro e w1 ⟨rfl, hb⟩
  have HB1 : Hid (Below w.heap.size w w1) := HB0.out.trans (hb.mono HB0.out.size)
  have HC1 : Hid (w1.heap[w.heap.size]? = some c.obj) := (hb.block _ (by simp)).trans HC0.out
  clear hb
  obtain ⟨k0, k1, k2, k3⟩ := Cfg.cells_at HC1.out
  have hs1 := block_lt HC1.out
  go_wp2_with fail
  refine (refright_any _ c).mono ?_
  rintro e w2 ⟨rfl, hb⟩
  have HB2 : Hid (Below w.heap.size w w2) := HB1.out.trans (hb.mono HB1.out.size)
  have HC2 : Hid (w2.heap[w.heap.size]? = some c.obj) := (hb.block _ hs1).trans HC1.out
  clear hb k0 k1 k2 k3
  obtain ⟨k0, k1, k2, k3⟩ := Cfg.cells_at HC2.out
  have hs2 := block_lt HC2.out
  by_cases ok : c.ok = true
  · have HOK := Lib.hid ok
    have HPB : Hid (∀ W, Tens W → Errs W → MaxL W → Calls Tryd.prog 24 #[.string c.text] W fun e w' => e = .returned (.tuple #[.agg #[.int .i64 c.cells, .int .i64 c.muts, .int .i64 c.regs, .int .i64 c.globs], .int .i64 0]) ∧ Below W.heap.size W w') := by rw [if_pos ok] at HPA; exact HPA
    have HER : Hid (c.err = 0) := by unfold Cfg.err Hid; rw [if_pos ok]
    have HOP : Hid (c.opr = 128 * (c.muts + 1)) := by unfold Cfg.opr Hid; rw [if_pos ok]
    have HCC : Hid (c.cyc = 32 * (c.cells + c.muts + 1) * (c.cells + c.roots + 32 * c.muts)) := by unfold Cfg.cyc Hid; rw [if_pos ok]
    have ho := c.ok_iff.1 ok
    have hr := c.roots_in ok
    have hb := cyc_bd c ok
    have s1 : IntKind.i64.wrap (c.cells + c.muts) = c.cells + c.muts := IntWalk.i64_in _ (by omega)
    have s2 : IntKind.i64.wrap (c.cells + c.muts + 1) = c.cells + c.muts + 1 := IntWalk.i64_in _ (by omega)
    have s3 : IntKind.i64.wrap (32 * (c.cells + c.muts + 1)) = 32 * (c.cells + c.muts + 1) := IntWalk.i64_in _ (by omega)
    have s4 : IntKind.i64.wrap (c.cells + c.roots) = c.cells + c.roots := IntWalk.i64_in _ (by omega)
    have s5 : IntKind.i64.wrap (32 * c.muts) = 32 * c.muts := IntWalk.i64_in _ (by omega)
    have s6 : IntKind.i64.wrap (c.cells + c.roots + 32 * c.muts) = c.cells + c.roots + 32 * c.muts := IntWalk.i64_in _ (by omega)
    have s7 : IntKind.i64.wrap (32 * (c.cells + c.muts + 1) * (c.cells + c.roots + 32 * c.muts)) = 32 * (c.cells + c.muts + 1) * (c.cells + c.roots + 32 * c.muts) := IntWalk.i64_in _ (by omega)
    have s8 : IntKind.i64.wrap (c.muts + 1) = c.muts + 1 := IntWalk.i64_in _ (by omega)
    have s9 : IntKind.i64.wrap (128 * (c.muts + 1)) = 128 * (c.muts + 1) := IntWalk.i64_in _ (by omega)
    rw [HER.out] at HCK
    clear ho hr hb ok HPA
    rw [HOK.out]
    have HALL : Hid (∀ W, Below w2.heap.size w2 W → W.cell? ⟨w.heap.size, 0, none⟩ = some (.int .i64 c.cells) ∧ W.cell? ⟨w.heap.size, 1, none⟩ = some (.int .i64 c.muts) ∧ W.cell? ⟨w.heap.size, 2, none⟩ = some (.int .i64 c.regs) ∧ W.cell? ⟨w.heap.size, 3, none⟩ = some (.int .i64 c.globs) ∧ Below w2.heap.size w2 W) := fun W hB => by
      obtain ⟨f0, f1, f2, f3⟩ := Cfg.cells_at ((hB.block _ (block_lt HC2.out)).trans HC2.out)
      exact ⟨f0, f1, f2, f3, hB⟩
    go_wp2_with fail
    go_region_held3 (fun W => W.cell? ⟨w.heap.size, 0, none⟩ = some (.int .i64 c.cells) ∧ W.cell? ⟨w.heap.size, 1, none⟩ = some (.int .i64 c.muts) ∧ W.cell? ⟨w.heap.size, 2, none⟩ = some (.int .i64 c.regs) ∧ W.cell? ⟨w.heap.size, 3, none⟩ = some (.int .i64 c.globs) ∧ Below w2.heap.size w2 W)
      (first | exact HALL.out _ (Below.refl _ _) | exact HALL.out _ (Below.refl _ _).drew | (go_split_ands; exact HALL.out _ (Below.trans (by assumption) (hb2.mono (Below.size (by assumption))))) | (go_split_ands; exact HALL.out _ (by assumption)) | fail)
      (first | (go_at_call_of 27 (Value.int IntKind.i64 c.cells); refine (HRR.out _).mono ?_; rintro e wq ⟨rfl, hb2⟩))
    all_goals
     go_split_ands
     have hq : Below w2.heap.size w2 wq := by assumption
     have HBq : Hid (Below w.heap.size w wq) := HB2.out.trans (hq.mono HB2.out.size)
     have HCq : Hid (wq.heap[w.heap.size]? = some c.obj) := (hq.block _ hs2).trans HC2.out
     clear HALL
     rw [HOP.out] at HO
     rw [HCC.out] at HCY
     have q1 : (c.text.toList == c.text.toList) = true := strT rfl
     have heq : ∀ W : World, (binOp .eql 23 (.agg #[.int .i64 c.cells, .int .i64 c.muts, .int .i64 c.regs, .int .i64 c.globs]) (.agg #[.int .i64 c.cells, .int .i64 c.muts, .int .i64 c.regs, .int .i64 c.globs])).run Tryd.prog W = .ok (.bool true) W := fun W => by
       have h := cfg_eql W c c
       rw [decide_eq_true rfl] at h
       exact h
     have b_roots : (c.roots == c.roots) = true := by simp
     have b_words : (c.words == c.words) = true := by simp
     have b_op : ((128 * (c.muts + 1)) == (128 * (c.muts + 1))) = true := by simp
     have b_cy : ((32 * (c.cells + c.muts + 1) * (c.cells + c.roots + 32 * c.muts)) == (32 * (c.cells + c.muts + 1) * (c.cells + c.roots + 32 * c.muts))) = true := by simp
     generalize c.text = tx at *
     obtain ⟨k0, k1, k2, k3⟩ := Cfg.cells_at HCq.out
     go_wp2_with fail
     refine (HTX.out _ (HT.out.below (Nat.le_refl _) HBq.out)).mono ?_
     rintro e w3 ⟨rfl, hb⟩
     have HB3 : Hid (Below w.heap.size w w3) := HBq.out.trans (hb.mono HBq.out.size)
     have HC3 : Hid (w3.heap[w.heap.size]? = some c.obj) := (hb.block _ (block_lt HCq.out)).trans HCq.out
     clear hb
     go_wp2_with fail
     refine (HPB.out _ (HT.out.below (Nat.le_refl _) HB3.out) (HE.out.below (Nat.le_refl _) HB3.out) (HM.out.below (Nat.le_refl _) HB3.out)).mono ?_
     rintro e w4 ⟨rfl, hb⟩
     have HB4 : Hid (Below w.heap.size w w4) := HB3.out.trans (hb.mono HB3.out.size)
     have HC4 : Hid (w4.heap[w.heap.size]? = some c.obj) := (hb.block _ (block_lt HC3.out)).trans HC3.out
     clear hb
     obtain ⟨W5, hW5⟩ : ∃ W, W = w4.alloc c.obj := ⟨_, rfl⟩
     have HB5 : Hid (Below w.heap.size w W5) := by rw [hW5]; exact HB4.out.alloc HB4.out.size _
     have HX5 : Hid (W5.heap[w4.heap.size]? = some c.obj) := by rw [hW5]; exact heap_alloc_new w4 _
     have HC5 : Hid (W5.heap[w.heap.size]? = some c.obj) := by rw [hW5]; exact (Below.heap_alloc _ _ _ (block_lt HC4.out)).trans HC4.out
     have HALL : Hid (∀ W, Below W5.heap.size W5 W → W.cell? ⟨w.heap.size, 0, none⟩ = some (.int .i64 c.cells) ∧ W.cell? ⟨w.heap.size, 1, none⟩ = some (.int .i64 c.muts) ∧ W.cell? ⟨w.heap.size, 2, none⟩ = some (.int .i64 c.regs) ∧ W.cell? ⟨w.heap.size, 3, none⟩ = some (.int .i64 c.globs) ∧ W.cell? ⟨w4.heap.size, 0, none⟩ = some (.int .i64 c.cells) ∧ W.cell? ⟨w4.heap.size, 1, none⟩ = some (.int .i64 c.muts) ∧ W.cell? ⟨w4.heap.size, 2, none⟩ = some (.int .i64 c.regs) ∧ W.cell? ⟨w4.heap.size, 3, none⟩ = some (.int .i64 c.globs) ∧ Below W5.heap.size W5 W) := fun W hB => by
       obtain ⟨f0, f1, f2, f3⟩ := Cfg.cells_at ((hB.block _ (block_lt HC5.out)).trans HC5.out)
       obtain ⟨g0, g1, g2, g3⟩ := Cfg.cells_at ((hB.block _ (block_lt HX5.out)).trans HX5.out)
       exact ⟨f0, f1, f2, f3, g0, g1, g2, g3, hB⟩
     go_wp2_with fail
     rw [← hW5]
     clear hW5
     try simp only [List.append_eq, List.cons_append, List.nil_append]
     refine wp_region_held_drew (S := fun W => W.cell? ⟨w.heap.size, 0, none⟩ = some (.int .i64 c.cells) ∧ W.cell? ⟨w.heap.size, 1, none⟩ = some (.int .i64 c.muts) ∧ W.cell? ⟨w.heap.size, 2, none⟩ = some (.int .i64 c.regs) ∧ W.cell? ⟨w.heap.size, 3, none⟩ = some (.int .i64 c.globs) ∧ W.cell? ⟨w4.heap.size, 0, none⟩ = some (.int .i64 c.cells) ∧ W.cell? ⟨w4.heap.size, 1, none⟩ = some (.int .i64 c.muts) ∧ W.cell? ⟨w4.heap.size, 2, none⟩ = some (.int .i64 c.regs) ∧ W.cell? ⟨w4.heap.size, 3, none⟩ = some (.int .i64 c.globs) ∧ Below W5.heap.size W5 W) (by kernel_rfl) ?_ (fun hHeld => ?_)
     · exact HALL.out _ (Below.refl _ _).drew
     refine wpAnyH_take (i := 0) (oi := ?oi1) (v := ?v1) ?hi1 (by kernel_rfl) (by kernel_rfl) (by kernel_rfl) ?hq1 (Or.inl ⟨?hw1, ?hy1⟩) (by assumption) ?rest1
     case hi1 => simp only [List.getElem?_toArray, List.getElem?_cons_succ, List.getElem?_cons_zero]; rfl
     case hq1 => exact fun _ _ _ h => h
     case hw1 => kernel_rfl
     case hy1 => (intro w hSw; (try dsimp only at hSw); go_simp; try with_reducible rfl)
     try simp only [Act.put, List.setIfInBounds_toArray, List.set_cons_zero, List.set_cons_succ]
     refine wpAnyH_take (i := 3) (oi := ?oi2) (v := ?v2) ?hi2 (by kernel_rfl) (by kernel_rfl) (by kernel_rfl) ?hq2 (Or.inl ⟨?hw2, ?hy2⟩) (by assumption) ?rest2
     case hi2 => simp only [List.getElem?_toArray, List.getElem?_cons_succ, List.getElem?_cons_zero]; rfl
     case hq2 => exact fun _ _ _ h => h
     case hw2 => kernel_rfl
     case hy2 => (intro w hSw; (try dsimp only at hSw); go_simp; try with_reducible rfl)
     try simp only [Act.put, List.setIfInBounds_toArray, List.set_cons_zero, List.set_cons_succ]
     refine wpAnyH_ready (rs := [1]) (by kernel_rfl) (by simp) ?_
     refine AllReadyH.cons (o := ?o3) ?ho3 (fun K hK => ?st3) AllReadyH.nil
     case ho3 => simp only [List.getElem?_toArray, List.getElem?_cons_succ, List.getElem?_cons_zero]; rfl
     go_simp
     go_at_call 29
     refine (HCK.out _).mono ?_
     rintro e wr ⟨rfl, hb2⟩
     have hBel := Below.trans hHeld.2.2.2.2.2.2.2.2 (hb2.mono (Below.size hHeld.2.2.2.2.2.2.2.2))
     clear hHeld
     try go_simp
     refine hK.out _ _ ?_ (fun hHeld => ?_)
     · exact HALL.out _ hBel
     clear hK K hb2 hBel
     try simp only [Act.put, List.setIfInBounds_toArray, List.set_cons_zero, List.set_cons_succ]
     refine wpAnyH_take (i := 2) (oi := ?oi4) (v := ?v4) ?hi4 (by kernel_rfl) (by kernel_rfl) (by kernel_rfl) ?hq4 (Or.inl ⟨?hw4, ?hy4⟩) (by assumption) ?rest4
     case hi4 => simp only [List.getElem?_toArray, List.getElem?_cons_succ, List.getElem?_cons_zero]; rfl
     case hq4 => exact fun _ _ _ h => h
     case hw4 => kernel_rfl
     case hy4 => (intro w hSw; (try dsimp only at hSw); go_simp; try with_reducible rfl)
     try simp only [Act.put, List.setIfInBounds_toArray, List.set_cons_zero, List.set_cons_succ]
     refine wpAnyH_take (i := 4) (oi := ?oi5) (v := ?v5) ?hi5 (by kernel_rfl) (by kernel_rfl) (by kernel_rfl) ?hq5 (Or.inl ⟨?hw5, ?hy5⟩) (by assumption) ?rest5
     case hi5 => simp only [List.getElem?_toArray, List.getElem?_cons_succ, List.getElem?_cons_zero]; rfl
     case hq5 => exact fun _ _ _ h => h
     case hw5 => kernel_rfl
     case hy5 => (intro w hSw; (try dsimp only at hSw); go_simp; try with_reducible rfl)
     try simp only [Act.put, List.setIfInBounds_toArray, List.set_cons_zero, List.set_cons_succ]
     refine wpAnyH_take (i := 5) (oi := ?oi6) (v := ?v6) ?hi6 (by kernel_rfl) (by kernel_rfl) (by kernel_rfl) ?hq6 (Or.inl ⟨?hw6, ?hy6⟩) (by assumption) ?rest6
     case hi6 => simp only [List.getElem?_toArray, List.getElem?_cons_succ, List.getElem?_cons_zero]; rfl
     case hq6 => exact fun _ _ _ h => h
     case hw6 => kernel_rfl
     case hy6 => (intro w hSw; (try dsimp only at hSw); go_simp; try with_reducible rfl)
     try simp only [Act.put, List.setIfInBounds_toArray, List.set_cons_zero, List.set_cons_succ]
     refine wpAnyH_take (i := 6) (oi := ?oi7) (v := ?v7) ?hi7 (by kernel_rfl) (by kernel_rfl) (by kernel_rfl) ?hq7 (Or.inl ⟨?hw7, ?hy7⟩) (by assumption) ?rest7
     case hi7 => simp only [List.getElem?_toArray, List.getElem?_cons_succ, List.getElem?_cons_zero]; rfl
     case hq7 => exact fun _ _ _ h => h
     case hw7 => kernel_rfl
     case hy7 => (intro w hSw; (try dsimp only at hSw); go_simp; try with_reducible rfl)
     try simp only [Act.put, List.setIfInBounds_toArray, List.set_cons_zero, List.set_cons_succ]
     refine wpAnyH_take (i := 7) (oi := ?oi8) (v := ?v8) ?hi8 (by kernel_rfl) (by kernel_rfl) (by kernel_rfl) ?hq8 (Or.inl ⟨?hw8, ?hy8⟩) (by assumption) ?rest8
     case hi8 => simp only [List.getElem?_toArray, List.getElem?_cons_succ, List.getElem?_cons_zero]; rfl
     case hq8 => exact fun _ _ _ h => h
     case hw8 => kernel_rfl
     case hy8 => (intro w hSw; (try dsimp only at hSw); go_simp; try with_reducible rfl)
     try simp only [Act.put, List.setIfInBounds_toArray, List.set_cons_zero, List.set_cons_succ]
     refine wpAnyH_take (i := 8) (oi := ?oi9) (v := ?v9) ?hi9 (by kernel_rfl) (by kernel_rfl) (by kernel_rfl) ?hq9 (Or.inl ⟨?hw9, ?hy9⟩) (by assumption) ?rest9
     case hi9 => simp only [List.getElem?_toArray, List.getElem?_cons_succ, List.getElem?_cons_zero]; rfl
     case hq9 => exact fun _ _ _ h => h
     case hw9 => kernel_rfl
     case hy9 => (intro w hSw; (try dsimp only at hSw); go_simp; try with_reducible rfl)
     try simp only [Act.put, List.setIfInBounds_toArray, List.set_cons_zero, List.set_cons_succ]
     refine wpAnyH_take (i := 9) (oi := ?oi10) (v := undef) ?hi10 (by kernel_rfl) (by kernel_rfl) (by kernel_rfl) ?hq10 (Or.inr ⟨?hw10, rfl⟩) (by assumption) ?rest10
     case hi10 => simp only [List.getElem?_toArray, List.getElem?_cons_succ, List.getElem?_cons_zero]; rfl
     case hq10 => exact fun _ _ _ h => h
     case hw10 => kernel_rfl
     try simp only [Act.put, List.setIfInBounds_toArray, List.set_cons_zero, List.set_cons_succ]
     refine wpAnyH_take (i := 10) (oi := ?oi11) (v := undef) ?hi11 (by kernel_rfl) (by kernel_rfl) (by kernel_rfl) ?hq11 (Or.inr ⟨?hw11, rfl⟩) (by assumption) ?rest11
     case hi11 => simp only [List.getElem?_toArray, List.getElem?_cons_succ, List.getElem?_cons_zero]; rfl
     case hq11 => exact fun _ _ _ h => h
     case hw11 => kernel_rfl
     try simp only [Act.put, List.setIfInBounds_toArray, List.set_cons_zero, List.set_cons_succ]
     refine wpAnyH_take (i := 11) (oi := ?oi12) (v := undef) ?hi12 (by kernel_rfl) (by kernel_rfl) (by kernel_rfl) ?hq12 (Or.inr ⟨?hw12, rfl⟩) (by assumption) ?rest12
     case hi12 => simp only [List.getElem?_toArray, List.getElem?_cons_succ, List.getElem?_cons_zero]; rfl
     case hq12 => exact fun _ _ _ h => h
     case hw12 => kernel_rfl
     try simp only [Act.put, List.setIfInBounds_toArray, List.set_cons_zero, List.set_cons_succ]
     refine wpAnyH_take (i := 12) (oi := ?oi13) (v := ?v13) ?hi13 (by kernel_rfl) (by kernel_rfl) (by kernel_rfl) ?hq13 (Or.inl ⟨?hw13, ?hy13⟩) (by assumption) ?rest13
     case hi13 => simp only [List.getElem?_toArray, List.getElem?_cons_succ, List.getElem?_cons_zero]; rfl
     case hq13 => exact fun _ _ _ h => h
     case hw13 => kernel_rfl
     case hy13 => (intro w hSw; (try dsimp only at hSw); go_simp; try with_reducible rfl)
     try simp only [Act.put, List.setIfInBounds_toArray, List.set_cons_zero, List.set_cons_succ]
     refine wpAnyH_take (i := 13) (oi := ?oi14) (v := ?v14) ?hi14 (by kernel_rfl) (by kernel_rfl) (by kernel_rfl) ?hq14 (Or.inl ⟨?hw14, ?hy14⟩) (by assumption) ?rest14
     case hi14 => simp only [List.getElem?_toArray, List.getElem?_cons_succ, List.getElem?_cons_zero]; rfl
     case hq14 => exact fun _ _ _ h => h
     case hw14 => kernel_rfl
     case hy14 => (intro w hSw; (try dsimp only at hSw); go_simp; try with_reducible rfl)
     try simp only [Act.put, List.setIfInBounds_toArray, List.set_cons_zero, List.set_cons_succ]
     refine wpAnyH_take (i := 14) (oi := ?oi15) (v := ?v15) ?hi15 (by kernel_rfl) (by kernel_rfl) (by kernel_rfl) ?hq15 (Or.inl ⟨?hw15, ?hy15⟩) (by assumption) ?rest15
     case hi15 => simp only [List.getElem?_toArray, List.getElem?_cons_succ, List.getElem?_cons_zero]; rfl
     case hq15 => exact fun _ _ _ h => h
     case hw15 => kernel_rfl
     case hy15 => (intro w hSw; (try dsimp only at hSw); go_simp; try with_reducible rfl)
     try simp only [Act.put, List.setIfInBounds_toArray, List.set_cons_zero, List.set_cons_succ]
     refine wpAnyH_take (i := 15) (oi := ?oi16) (v := ?v16) ?hi16 (by kernel_rfl) (by kernel_rfl) (by kernel_rfl) ?hq16 (Or.inl ⟨?hw16, ?hy16⟩) (by assumption) ?rest16
     case hi16 => simp only [List.getElem?_toArray, List.getElem?_cons_succ, List.getElem?_cons_zero]; rfl
     case hq16 => exact fun _ _ _ h => h
     case hw16 => kernel_rfl
     case hy16 => (intro w hSw; (try dsimp only at hSw); go_simp; try with_reducible rfl)
     try simp only [Act.put, List.setIfInBounds_toArray, List.set_cons_zero, List.set_cons_succ]
     refine wpAnyH_take (i := 17) (oi := ?oi17) (v := ?v17) ?hi17 (by kernel_rfl) (by kernel_rfl) (by kernel_rfl) ?hq17 (Or.inl ⟨?hw17, ?hy17⟩) (by assumption) ?rest17
     case hi17 => simp only [List.getElem?_toArray, List.getElem?_cons_succ, List.getElem?_cons_zero]; rfl
     case hq17 => exact fun _ _ _ h => h
     case hw17 => kernel_rfl
     case hy17 => (intro w hSw; (try dsimp only at hSw); go_simp; try with_reducible rfl)
     try simp only [Act.put, List.setIfInBounds_toArray, List.set_cons_zero, List.set_cons_succ]
     refine wpAnyH_ready (rs := [16]) (by kernel_rfl) (by simp) ?_
     refine AllReadyH.cons (o := ?o18) ?ho18 (fun K hK => ?st18) AllReadyH.nil
     case ho18 => simp only [List.getElem?_toArray, List.getElem?_cons_succ, List.getElem?_cons_zero]; rfl
     go_simp
     go_at_call 30
     refine (HR.out _).mono ?_
     rintro e wr ⟨rfl, hb2⟩
     have hBel := Below.trans hHeld.2.2.2.2.2.2.2.2 (hb2.mono (Below.size hHeld.2.2.2.2.2.2.2.2))
     clear hHeld
     try go_simp
     refine hK.out _ _ ?_ (fun hHeld => ?_)
     · exact HALL.out _ hBel
     clear hK K hb2 hBel
     try simp only [Act.put, List.setIfInBounds_toArray, List.set_cons_zero, List.set_cons_succ]
     refine wpAnyH_ready (rs := [18]) (by kernel_rfl) (by simp) ?_
     refine AllReadyH.cons (o := ?o19) ?ho19 (fun K hK => ?st19) AllReadyH.nil
     case ho19 => simp only [List.getElem?_toArray, List.getElem?_cons_succ, List.getElem?_cons_zero]; rfl
     go_simp
     go_at_call 27
     refine (HRR.out _).mono ?_
     rintro e wr ⟨rfl, hb2⟩
     have hBel := Below.trans hHeld.2.2.2.2.2.2.2.2 (hb2.mono (Below.size hHeld.2.2.2.2.2.2.2.2))
     clear hHeld
     try go_simp
     refine hK.out _ _ ?_ (fun hHeld => ?_)
     · exact HALL.out _ hBel
     clear hK K hb2 hBel
     try simp only [Act.put, List.setIfInBounds_toArray, List.set_cons_zero, List.set_cons_succ]
     refine wpAnyH_take (i := 19) (oi := ?oi20) (v := ?v20) ?hi20 (by kernel_rfl) (by kernel_rfl) (by kernel_rfl) ?hq20 (Or.inl ⟨?hw20, ?hy20⟩) (by assumption) ?rest20
     case hi20 => simp only [List.getElem?_toArray, List.getElem?_cons_succ, List.getElem?_cons_zero]; rfl
     case hq20 => exact fun _ _ _ h => h
     case hw20 => kernel_rfl
     case hy20 => (intro w hSw; (try dsimp only at hSw); go_simp; try with_reducible rfl)
     try simp only [Act.put, List.setIfInBounds_toArray, List.set_cons_zero, List.set_cons_succ]
     refine wpAnyH_take (i := 20) (oi := ?oi21) (v := ?v21) ?hi21 (by kernel_rfl) (by kernel_rfl) (by kernel_rfl) ?hq21 (Or.inl ⟨?hw21, ?hy21⟩) (by assumption) ?rest21
     case hi21 => simp only [List.getElem?_toArray, List.getElem?_cons_succ, List.getElem?_cons_zero]; rfl
     case hq21 => exact fun _ _ _ h => h
     case hw21 => kernel_rfl
     case hy21 => (intro w hSw; (try dsimp only at hSw); go_simp; try with_reducible rfl)
     try simp only [Act.put, List.setIfInBounds_toArray, List.set_cons_zero, List.set_cons_succ]
     refine wpAnyH_take (i := 21) (oi := ?oi22) (v := ?v22) ?hi22 (by kernel_rfl) (by kernel_rfl) (by kernel_rfl) ?hq22 (Or.inl ⟨?hw22, ?hy22⟩) (by assumption) ?rest22
     case hi22 => simp only [List.getElem?_toArray, List.getElem?_cons_succ, List.getElem?_cons_zero]; rfl
     case hq22 => exact fun _ _ _ h => h
     case hw22 => kernel_rfl
     case hy22 => (intro w hSw; (try dsimp only at hSw); go_simp; try with_reducible rfl)
     try simp only [Act.put, List.setIfInBounds_toArray, List.set_cons_zero, List.set_cons_succ]
     refine wpAnyH_take (i := 22) (oi := ?oi23) (v := ?v23) ?hi23 (by kernel_rfl) (by kernel_rfl) (by kernel_rfl) ?hq23 (Or.inl ⟨?hw23, ?hy23⟩) (by assumption) ?rest23
     case hi23 => simp only [List.getElem?_toArray, List.getElem?_cons_succ, List.getElem?_cons_zero]; rfl
     case hq23 => exact fun _ _ _ h => h
     case hw23 => kernel_rfl
     case hy23 => (intro w hSw; (try dsimp only at hSw); go_simp; try with_reducible rfl)
     try simp only [Act.put, List.setIfInBounds_toArray, List.set_cons_zero, List.set_cons_succ]
     refine wpAnyH_take (i := 24) (oi := ?oi24) (v := ?v24) ?hi24 (by kernel_rfl) (by kernel_rfl) (by kernel_rfl) ?hq24 (Or.inl ⟨?hw24, ?hy24⟩) (by assumption) ?rest24
     case hi24 => simp only [List.getElem?_toArray, List.getElem?_cons_succ, List.getElem?_cons_zero]; rfl
     case hq24 => exact fun _ _ _ h => h
     case hw24 => kernel_rfl
     case hy24 => (intro w hSw; (try dsimp only at hSw); go_simp; try with_reducible rfl)
     try simp only [Act.put, List.setIfInBounds_toArray, List.set_cons_zero, List.set_cons_succ]
     refine wpAnyH_ready (rs := [23]) (by kernel_rfl) (by simp) ?_
     refine AllReadyH.cons (o := ?o25) ?ho25 (fun K hK => ?st25) AllReadyH.nil
     case ho25 => simp only [List.getElem?_toArray, List.getElem?_cons_succ, List.getElem?_cons_zero]; rfl
     go_simp
     go_at_call 31
     refine (HW.out _).mono ?_
     rintro e wr ⟨rfl, hb2⟩
     have hBel := Below.trans hHeld.2.2.2.2.2.2.2.2 (hb2.mono (Below.size hHeld.2.2.2.2.2.2.2.2))
     clear hHeld
     try go_simp
     refine hK.out _ _ ?_ (fun hHeld => ?_)
     · exact HALL.out _ hBel
     clear hK K hb2 hBel
     try simp only [Act.put, List.setIfInBounds_toArray, List.set_cons_zero, List.set_cons_succ]
     refine wpAnyH_ready (rs := [25]) (by kernel_rfl) (by simp) ?_
     refine AllReadyH.cons (o := ?o26) ?ho26 (fun K hK => ?st26) AllReadyH.nil
     case ho26 => simp only [List.getElem?_toArray, List.getElem?_cons_succ, List.getElem?_cons_zero]; rfl
     go_simp
     go_at_call 32
     refine (HRW.out _).mono ?_
     rintro e wr ⟨rfl, hb2⟩
     have hBel := Below.trans hHeld.2.2.2.2.2.2.2.2 (hb2.mono (Below.size hHeld.2.2.2.2.2.2.2.2))
     clear hHeld
     try go_simp
     refine hK.out _ _ ?_ (fun hHeld => ?_)
     · exact HALL.out _ hBel
     clear hK K hb2 hBel
     try simp only [Act.put, List.setIfInBounds_toArray, List.set_cons_zero, List.set_cons_succ]
     refine wpAnyH_take (i := 26) (oi := ?oi27) (v := ?v27) ?hi27 (by kernel_rfl) (by kernel_rfl) (by kernel_rfl) ?hq27 (Or.inl ⟨?hw27, ?hy27⟩) (by assumption) ?rest27
     case hi27 => simp only [List.getElem?_toArray, List.getElem?_cons_succ, List.getElem?_cons_zero]; rfl
     case hq27 => exact fun _ _ _ h => h
     case hw27 => kernel_rfl
     case hy27 => (intro w hSw; (try dsimp only at hSw); go_simp; try with_reducible rfl)
     try simp only [Act.put, List.setIfInBounds_toArray, List.set_cons_zero, List.set_cons_succ]
     refine wpAnyH_take (i := 27) (oi := ?oi28) (v := ?v28) ?hi28 (by kernel_rfl) (by kernel_rfl) (by kernel_rfl) ?hq28 (Or.inl ⟨?hw28, ?hy28⟩) (by assumption) ?rest28
     case hi28 => simp only [List.getElem?_toArray, List.getElem?_cons_succ, List.getElem?_cons_zero]; rfl
     case hq28 => exact fun _ _ _ h => h
     case hw28 => kernel_rfl
     case hy28 => (intro w hSw; (try dsimp only at hSw); go_simp; try with_reducible rfl)
     try simp only [Act.put, List.setIfInBounds_toArray, List.set_cons_zero, List.set_cons_succ]
     refine wpAnyH_take (i := 28) (oi := ?oi29) (v := ?v29) ?hi29 (by kernel_rfl) (by kernel_rfl) (by kernel_rfl) ?hq29 (Or.inl ⟨?hw29, ?hy29⟩) (by assumption) ?rest29
     case hi29 => simp only [List.getElem?_toArray, List.getElem?_cons_succ, List.getElem?_cons_zero]; rfl
     case hq29 => exact fun _ _ _ h => h
     case hw29 => kernel_rfl
     case hy29 => (intro w hSw; (try dsimp only at hSw); go_simp; try with_reducible rfl)
     try simp only [Act.put, List.setIfInBounds_toArray, List.set_cons_zero, List.set_cons_succ]
     refine wpAnyH_take (i := 29) (oi := ?oi30) (v := ?v30) ?hi30 (by kernel_rfl) (by kernel_rfl) (by kernel_rfl) ?hq30 (Or.inl ⟨?hw30, ?hy30⟩) (by assumption) ?rest30
     case hi30 => simp only [List.getElem?_toArray, List.getElem?_cons_succ, List.getElem?_cons_zero]; rfl
     case hq30 => exact fun _ _ _ h => h
     case hw30 => kernel_rfl
     case hy30 => (intro w hSw; (try dsimp only at hSw); go_simp; try with_reducible rfl)
     try simp only [Act.put, List.setIfInBounds_toArray, List.set_cons_zero, List.set_cons_succ]
     refine wpAnyH_take (i := 31) (oi := ?oi31) (v := ?v31) ?hi31 (by kernel_rfl) (by kernel_rfl) (by kernel_rfl) ?hq31 (Or.inl ⟨?hw31, ?hy31⟩) (by assumption) ?rest31
     case hi31 => simp only [List.getElem?_toArray, List.getElem?_cons_succ, List.getElem?_cons_zero]; rfl
     case hq31 => exact fun _ _ _ h => h
     case hw31 => kernel_rfl
     case hy31 => (intro w hSw; (try dsimp only at hSw); go_simp; try with_reducible rfl)
     try simp only [Act.put, List.setIfInBounds_toArray, List.set_cons_zero, List.set_cons_succ]
     refine wpAnyH_ready (rs := [30]) (by kernel_rfl) (by simp) ?_
     refine AllReadyH.cons (o := ?o32) ?ho32 (fun K hK => ?st32) AllReadyH.nil
     case ho32 => simp only [List.getElem?_toArray, List.getElem?_cons_succ, List.getElem?_cons_zero]; rfl
     go_simp
     go_at_call 33
     refine (HO.out _).mono ?_
     rintro e wr ⟨rfl, hb2⟩
     have hBel := Below.trans hHeld.2.2.2.2.2.2.2.2 (hb2.mono (Below.size hHeld.2.2.2.2.2.2.2.2))
     clear hHeld
     try go_simp
     refine hK.out _ _ ?_ (fun hHeld => ?_)
     · exact HALL.out _ hBel
     clear hK K hb2 hBel
     try simp only [Act.put, List.setIfInBounds_toArray, List.set_cons_zero, List.set_cons_succ]
     refine wpAnyH_take (i := 32) (oi := ?oi33) (v := ?v33) ?hi33 (by kernel_rfl) (by kernel_rfl) (by kernel_rfl) ?hq33 (Or.inl ⟨?hw33, ?hy33⟩) (by assumption) ?rest33
     case hi33 => simp only [List.getElem?_toArray, List.getElem?_cons_succ, List.getElem?_cons_zero]; rfl
     case hq33 => exact fun _ _ _ h => h
     case hw33 => kernel_rfl
     case hy33 => (intro w hSw; (try dsimp only at hSw); go_simp; try with_reducible rfl)
     try simp only [Act.put, List.setIfInBounds_toArray, List.set_cons_zero, List.set_cons_succ]
     refine wpAnyH_take (i := 33) (oi := ?oi34) (v := ?v34) ?hi34 (by kernel_rfl) (by kernel_rfl) (by kernel_rfl) ?hq34 (Or.inl ⟨?hw34, ?hy34⟩) (by assumption) ?rest34
     case hi34 => simp only [List.getElem?_toArray, List.getElem?_cons_succ, List.getElem?_cons_zero]; rfl
     case hq34 => exact fun _ _ _ h => h
     case hw34 => kernel_rfl
     case hy34 => (intro w hSw; (try dsimp only at hSw); go_simp; try with_reducible rfl)
     try simp only [Act.put, List.setIfInBounds_toArray, List.set_cons_zero, List.set_cons_succ]
     refine wpAnyH_take (i := 34) (oi := ?oi35) (v := ?v35) ?hi35 (by kernel_rfl) (by kernel_rfl) (by kernel_rfl) ?hq35 (Or.inl ⟨?hw35, ?hy35⟩) (by assumption) ?rest35
     case hi35 => simp only [List.getElem?_toArray, List.getElem?_cons_succ, List.getElem?_cons_zero]; rfl
     case hq35 => exact fun _ _ _ h => h
     case hw35 => kernel_rfl
     case hy35 => (intro w hSw; (try dsimp only at hSw); go_simp; try with_reducible rfl)
     try simp only [Act.put, List.setIfInBounds_toArray, List.set_cons_zero, List.set_cons_succ]
     refine wpAnyH_take (i := 35) (oi := ?oi36) (v := ?v36) ?hi36 (by kernel_rfl) (by kernel_rfl) (by kernel_rfl) ?hq36 (Or.inl ⟨?hw36, ?hy36⟩) (by assumption) ?rest36
     case hi36 => simp only [List.getElem?_toArray, List.getElem?_cons_succ, List.getElem?_cons_zero]; rfl
     case hq36 => exact fun _ _ _ h => h
     case hw36 => kernel_rfl
     case hy36 => (intro w hSw; (try dsimp only at hSw); go_simp; try with_reducible rfl)
     try simp only [Act.put, List.setIfInBounds_toArray, List.set_cons_zero, List.set_cons_succ]
     refine wpAnyH_take (i := 37) (oi := ?oi37) (v := ?v37) ?hi37 (by kernel_rfl) (by kernel_rfl) (by kernel_rfl) ?hq37 (Or.inl ⟨?hw37, ?hy37⟩) (by assumption) ?rest37
     case hi37 => simp only [List.getElem?_toArray, List.getElem?_cons_succ, List.getElem?_cons_zero]; rfl
     case hq37 => exact fun _ _ _ h => h
     case hw37 => kernel_rfl
     case hy37 => (intro w hSw; (try dsimp only at hSw); go_simp; try with_reducible rfl)
     try simp only [Act.put, List.setIfInBounds_toArray, List.set_cons_zero, List.set_cons_succ]
     refine wpAnyH_ready (rs := [36]) (by kernel_rfl) (by simp) ?_
     refine AllReadyH.cons (o := ?o38) ?ho38 (fun K hK => ?st38) AllReadyH.nil
     case ho38 => simp only [List.getElem?_toArray, List.getElem?_cons_succ, List.getElem?_cons_zero]; rfl
     go_simp
     go_at_call 34
     refine (HCY.out _).mono ?_
     rintro e wr ⟨rfl, hb2⟩
     have hBel := Below.trans hHeld.2.2.2.2.2.2.2.2 (hb2.mono (Below.size hHeld.2.2.2.2.2.2.2.2))
     clear hHeld
     try go_simp
     refine hK.out _ _ ?_ (fun hHeld => ?_)
     · exact HALL.out _ hBel
     clear hK K hb2 hBel
     try simp only [Act.put, List.setIfInBounds_toArray, List.set_cons_zero, List.set_cons_succ]
     refine wpAnyH_take (i := 38) (oi := ?oi39) (v := ?v39) ?hi39 (by kernel_rfl) (by kernel_rfl) (by kernel_rfl) ?hq39 (Or.inl ⟨?hw39, ?hy39⟩) (by assumption) ?rest39
     case hi39 => simp only [List.getElem?_toArray, List.getElem?_cons_succ, List.getElem?_cons_zero]; rfl
     case hq39 => exact fun _ _ _ h => h
     case hw39 => kernel_rfl
     case hy39 => (intro w hSw; (try dsimp only at hSw); go_simp; try with_reducible rfl)
     try simp only [Act.put, List.setIfInBounds_toArray, List.set_cons_zero, List.set_cons_succ]
     refine wpAnyH_take (i := 39) (oi := ?oi40) (v := ?v40) ?hi40 (by kernel_rfl) (by kernel_rfl) (by kernel_rfl) ?hq40 (Or.inl ⟨?hw40, ?hy40⟩) (by assumption) ?rest40
     case hi40 => simp only [List.getElem?_toArray, List.getElem?_cons_succ, List.getElem?_cons_zero]; rfl
     case hq40 => exact fun _ _ _ h => h
     case hw40 => kernel_rfl
     case hy40 => (intro w hSw; (try dsimp only at hSw); go_simp; try with_reducible rfl)
     try simp only [Act.put, List.setIfInBounds_toArray, List.set_cons_zero, List.set_cons_succ]
     refine wpAnyH_take (i := 40) (oi := ?oi41) (v := ?v41) ?hi41 (by kernel_rfl) (by kernel_rfl) (by kernel_rfl) ?hq41 (Or.inl ⟨?hw41, ?hy41⟩) (by assumption) ?rest41
     case hi41 => simp only [List.getElem?_toArray, List.getElem?_cons_succ, List.getElem?_cons_zero]; rfl
     case hq41 => exact fun _ _ _ h => h
     case hw41 => kernel_rfl
     case hy41 => (intro w hSw; (try dsimp only at hSw); go_simp; try with_reducible rfl)
     try simp only [Act.put, List.setIfInBounds_toArray, List.set_cons_zero, List.set_cons_succ]
     refine wpAnyH_take (i := 41) (oi := ?oi42) (v := ?v42) ?hi42 (by kernel_rfl) (by kernel_rfl) (by kernel_rfl) ?hq42 (Or.inl ⟨?hw42, ?hy42⟩) (by assumption) ?rest42
     case hi42 => simp only [List.getElem?_toArray, List.getElem?_cons_succ, List.getElem?_cons_zero]; rfl
     case hq42 => exact fun _ _ _ h => h
     case hw42 => kernel_rfl
     case hy42 => (intro w hSw; (try dsimp only at hSw); go_simp; try with_reducible rfl)
     try simp only [Act.put, List.setIfInBounds_toArray, List.set_cons_zero, List.set_cons_succ]
     refine wpAnyH_take (i := 42) (oi := ?oi43) (v := ?v43) ?hi43 (by kernel_rfl) (by kernel_rfl) (by kernel_rfl) ?hq43 (Or.inl ⟨?hw43, ?hy43⟩) (by assumption) ?rest43
     case hi43 => simp only [List.getElem?_toArray, List.getElem?_cons_succ, List.getElem?_cons_zero]; rfl
     case hq43 => exact fun _ _ _ h => h
     case hw43 => kernel_rfl
     case hy43 => (intro w hSw; (try dsimp only at hSw); go_simp; try with_reducible rfl)
     try simp only [Act.put, List.setIfInBounds_toArray, List.set_cons_zero, List.set_cons_succ]
     refine wpAnyH_ready (rs := [43]) (by kernel_rfl) (by simp) ?_
     refine AllReadyH.cons (o := ?o44) ?ho44 (fun K hK => ?st44) AllReadyH.nil
     case ho44 => simp only [List.getElem?_toArray, List.getElem?_cons_succ, List.getElem?_cons_zero]; rfl
     go_simp
     go_at_call 35
     refine (HTR.out _).mono ?_
     rintro e wr ⟨rfl, hb2⟩
     have hBel := Below.trans hHeld.2.2.2.2.2.2.2.2 (hb2.mono (Below.size hHeld.2.2.2.2.2.2.2.2))
     clear hHeld
     try go_simp
     refine hK.out _ _ ?_ (fun hHeld => ?_)
     · exact HALL.out _ hBel
     clear hK K hb2 hBel
     try simp only [Act.put, List.setIfInBounds_toArray, List.set_cons_zero, List.set_cons_succ]
     refine wpAnyH_take (i := 44) (oi := ?oi45) (v := ?v45) ?hi45 (by kernel_rfl) (by kernel_rfl) (by kernel_rfl) ?hq45 (Or.inl ⟨?hw45, ?hy45⟩) (by assumption) ?rest45
     case hi45 => simp only [List.getElem?_toArray, List.getElem?_cons_succ, List.getElem?_cons_zero]; rfl
     case hq45 => exact fun _ _ _ h => h
     case hw45 => kernel_rfl
     case hy45 => (intro w hSw; (try dsimp only at hSw); go_simp; try with_reducible rfl)
     try simp only [Act.put, List.setIfInBounds_toArray, List.set_cons_zero, List.set_cons_succ]
     refine wpAnyH_take (i := 45) (oi := ?oi46) (v := ?v46) ?hi46 (by kernel_rfl) (by kernel_rfl) (by kernel_rfl) ?hq46 (Or.inl ⟨?hw46, ?hy46⟩) (by assumption) ?rest46
     case hi46 => simp only [List.getElem?_toArray, List.getElem?_cons_succ, List.getElem?_cons_zero]; rfl
     case hq46 => exact fun _ _ _ h => h
     case hw46 => kernel_rfl
     case hy46 => (intro w hSw; (try dsimp only at hSw); go_simp; try with_reducible rfl)
     try simp only [Act.put, List.setIfInBounds_toArray, List.set_cons_zero, List.set_cons_succ]
     refine wpAnyH_done (by kernel_rfl) ?_ _
     have hBel : Below W5.heap.size W5 wr := hHeld.2.2.2.2.2.2.2.2
     go_wp2_with fail
     go_ret
     exact ⟨by first | rfl | (simp; done), HB5.out.trans (Below.mono hBel HB5.out.size)⟩
  · have HOK : Hid (c.ok = false) := by unfold Hid; simpa using ok
    have HPB : Hid (∀ W, Tens W → Errs W → MaxL W → Calls Tryd.prog 24 #[.string c.text] W fun e w' => e = .returned (.tuple #[.agg #[.int .i64 0, .int .i64 0, .int .i64 0, .int .i64 0], .int .i64 3]) ∧ Below W.heap.size W w') := by rw [if_neg ok] at HPA; exact HPA
    have HER : Hid (c.err = 2) := by unfold Cfg.err Hid; rw [if_neg ok]
    have HOP : Hid (c.opr = 0) := by unfold Cfg.opr Hid; rw [if_neg ok]
    have HCC : Hid (c.cyc = 0) := by unfold Cfg.cyc Hid; rw [if_neg ok]
    rw [HER.out] at HCK
    rw [HOP.out] at HO
    rw [HCC.out] at HCY
    clear ok HPA
    rw [HOK.out]
    obtain ⟨wq, hwq⟩ : ∃ W, W = w2 := ⟨_, rfl⟩
    have HBq : Hid (Below w.heap.size w wq) := by rw [hwq]; exact HB2.out
    have HCq : Hid (wq.heap[w.heap.size]? = some c.obj) := by rw [hwq]; exact HC2.out
    rw [← hwq]
    clear hwq
    have q1 : (c.text.toList == c.text.toList) = true := strT rfl
    have heq : ∀ W : World, (binOp .eql 23 (.agg #[.int .i64 0, .int .i64 0, .int .i64 0, .int .i64 0]) (.agg #[.int .i64 0, .int .i64 0, .int .i64 0, .int .i64 0])).run Tryd.prog W = .ok (.bool true) W := fun W => by
      have h := cfg_eql W (⟨0, 0, 0, 0⟩ : Cfg) (⟨0, 0, 0, 0⟩ : Cfg)
      rw [decide_eq_true rfl] at h
      exact h
    have b_roots : (c.roots == c.roots) = true := by simp
    have b_words : (c.words == c.words) = true := by simp
    generalize c.text = tx at *
    obtain ⟨k0, k1, k2, k3⟩ := Cfg.cells_at HCq.out
    go_wp2_with fail
    refine (HTX.out _ (HT.out.below (Nat.le_refl _) HBq.out)).mono ?_
    rintro e w3 ⟨rfl, hb⟩
    have HB3 : Hid (Below w.heap.size w w3) := HBq.out.trans (hb.mono HBq.out.size)
    have HC3 : Hid (w3.heap[w.heap.size]? = some c.obj) := (hb.block _ (block_lt HCq.out)).trans HCq.out
    clear hb
    go_wp2_with fail
    refine (HPB.out _ (HT.out.below (Nat.le_refl _) HB3.out) (HE.out.below (Nat.le_refl _) HB3.out) (HM.out.below (Nat.le_refl _) HB3.out)).mono ?_
    rintro e w4 ⟨rfl, hb⟩
    have HB4 : Hid (Below w.heap.size w w4) := HB3.out.trans (hb.mono HB3.out.size)
    have HC4 : Hid (w4.heap[w.heap.size]? = some c.obj) := (hb.block _ (block_lt HC3.out)).trans HC3.out
    clear hb
    obtain ⟨W5, hW5⟩ : ∃ W, W = w4.alloc (⟨0, 0, 0, 0⟩ : Cfg).obj := ⟨_, rfl⟩
    have HB5 : Hid (Below w.heap.size w W5) := by rw [hW5]; exact HB4.out.alloc HB4.out.size _
    have HX5 : Hid (W5.heap[w4.heap.size]? = some (⟨0, 0, 0, 0⟩ : Cfg).obj) := by rw [hW5]; exact heap_alloc_new w4 _
    have HC5 : Hid (W5.heap[w.heap.size]? = some c.obj) := by rw [hW5]; exact (Below.heap_alloc _ _ _ (block_lt HC4.out)).trans HC4.out
    have HALL : Hid (∀ W, Below W5.heap.size W5 W → W.cell? ⟨w.heap.size, 0, none⟩ = some (.int .i64 c.cells) ∧ W.cell? ⟨w.heap.size, 1, none⟩ = some (.int .i64 c.muts) ∧ W.cell? ⟨w.heap.size, 2, none⟩ = some (.int .i64 c.regs) ∧ W.cell? ⟨w.heap.size, 3, none⟩ = some (.int .i64 c.globs) ∧ W.cell? ⟨w4.heap.size, 0, none⟩ = some (.int .i64 0) ∧ W.cell? ⟨w4.heap.size, 1, none⟩ = some (.int .i64 0) ∧ W.cell? ⟨w4.heap.size, 2, none⟩ = some (.int .i64 0) ∧ W.cell? ⟨w4.heap.size, 3, none⟩ = some (.int .i64 0) ∧ Below W5.heap.size W5 W) := fun W hB => by
      obtain ⟨f0, f1, f2, f3⟩ := Cfg.cells_at ((hB.block _ (block_lt HC5.out)).trans HC5.out)
      obtain ⟨g0, g1, g2, g3⟩ := Cfg.cells_at ((hB.block _ (block_lt HX5.out)).trans HX5.out)
      exact ⟨f0, f1, f2, f3, g0, g1, g2, g3, hB⟩
    go_wp2_with fail
    rw [← hW5]
    clear hW5
    try simp only [List.append_eq, List.cons_append, List.nil_append]
    go_region_held3 (fun W => W.cell? ⟨w.heap.size, 0, none⟩ = some (.int .i64 c.cells) ∧ W.cell? ⟨w.heap.size, 1, none⟩ = some (.int .i64 c.muts) ∧ W.cell? ⟨w.heap.size, 2, none⟩ = some (.int .i64 c.regs) ∧ W.cell? ⟨w.heap.size, 3, none⟩ = some (.int .i64 c.globs) ∧ W.cell? ⟨w4.heap.size, 0, none⟩ = some (.int .i64 0) ∧ W.cell? ⟨w4.heap.size, 1, none⟩ = some (.int .i64 0) ∧ W.cell? ⟨w4.heap.size, 2, none⟩ = some (.int .i64 0) ∧ W.cell? ⟨w4.heap.size, 3, none⟩ = some (.int .i64 0) ∧ Below W5.heap.size W5 W)
      (first | exact HALL.out _ (Below.refl _ _) | exact HALL.out _ (Below.refl _ _).drew | (go_split_ands; exact HALL.out _ (Below.trans (by assumption) (hb2.mono (Below.size (by assumption))))) | (go_split_ands; exact HALL.out _ (by assumption)) | fail)
      (first | (go_at_call_of 29 (Value.int IntKind.i64 c.cells); refine (HCK.out _).mono ?_; rintro e wr ⟨rfl, hb2⟩) | (go_at_call_of 30 (Value.int IntKind.i64 c.cells); refine (HR.out _).mono ?_; rintro e wr ⟨rfl, hb2⟩) | (go_at_call_of 27 (Value.int IntKind.i64 c.cells); refine (HRR.out _).mono ?_; rintro e wr ⟨rfl, hb2⟩) | (go_at_call_of 31 (Value.int IntKind.i64 c.cells); refine (HW.out _).mono ?_; rintro e wr ⟨rfl, hb2⟩) | (go_at_call_of 32 (Value.int IntKind.i64 c.cells); refine (HRW.out _).mono ?_; rintro e wr ⟨rfl, hb2⟩) | (go_at_call_of 33 (Value.int IntKind.i64 c.cells); refine (HO.out _).mono ?_; rintro e wr ⟨rfl, hb2⟩) | (go_at_call_of 34 (Value.int IntKind.i64 c.cells); refine (HCY.out _).mono ?_; rintro e wr ⟨rfl, hb2⟩) | (go_at_call_of 35 (Value.int IntKind.i64 c.cells); refine (HTR.out _).mono ?_; rintro e wr ⟨rfl, hb2⟩))
    all_goals
     go_split_ands
     go_wp2_with fail
     go_ret
     exact ⟨by first | rfl | (simp; done), HB5.out.trans (Below.mono (by assumption) HB5.out.size)⟩
end Go.Proofs.YtcheafeaioflmaaDoor
