/- The walk of the law OpPlain. -/
import Derived.Deep.RegionHeld3
import Derived.Test.YtdohmjdcgpkclaaDoorOpPlainPure
import Derived.Test.YtdohmjdcgpkclaaDoorOpChecksLaw
namespace Go.Proofs.YtdohmjdcgpkclaaDoor
open Go Go.RowKit Go.Shelf
set_option linter.unusedSimpArgs false
set_option linter.unusedVariables false
attribute [local go_sem] Oper.semAt_some

theorem rp_steps (x : Opr) : (rp x 1 = 0 ∧ rp x 2 = 0) ∨ (rp x 1 ≠ 0 ∧ rp x 2 = 0) ∨ (rp x 1 ≠ 0 ∧ rp x 2 ≠ 0) := by
  by_cases h1 : rp x 1 = 0
  · refine .inl ⟨h1, ?_⟩
    unfold rp at h1 ⊢
    by_cases h : 1 ≤ x.kind ∧ x.kind ≤ 11
    · rw [if_pos h] at h1 ⊢
      generalize x.kind = k at *
      obtain rfl | rfl | rfl | rfl | rfl | rfl | rfl | rfl | rfl | rfl | rfl : k = 1 ∨ k = 2 ∨ k = 3 ∨ k = 4 ∨ k = 5 ∨ k = 6 ∨ k = 7 ∨ k = 8 ∨ k = 9 ∨ k = 10 ∨ k = 11 := by omega
      all_goals first | (revert h1; decide) | decide
    · rw [if_neg h]
  · by_cases h2 : rp x 2 = 0
    · exact .inr (.inl ⟨h1, h2⟩)
    · exact .inr (.inr ⟨h1, h2⟩)
set_option maxHeartbeats 8000000 in
set_option maxRecDepth 100000 in
theorem oplain_walk (w : World) (c : Cfg) (x : Opr) (n : Int) (hf : x.fits) (hn : -9223372036854775808 ≤ n ∧ n ≤ 9223372036854775807) (ht : Tens w) :
    Calls Tryd.prog 9 #[c.v, x.v, .int .i64 n] w fun e w' => e = .returned (.bool true) ∧ Below w.heap.size w w' := by
  have HT : Hid (Tens w) := ht
  have HFX := Lib.hid hf
  have HFY := Lib.hid (mask_fits n hf hn)
  have HE := Lib.hid (mask_err x n c)
  have HTX := Lib.hid (mask_text x n)
  have HRX := Lib.hid (mask_regs x n)
  have HB0 : Hid (Below w.heap.size w ((w.alloc c.obj).alloc x.obj)) := ((Below.refl _ w).alloc (Nat.le_refl _) _).alloc (by simp) _
  have HC0 : Hid (((w.alloc c.obj).alloc x.obj).heap[w.heap.size]? = some c.obj) := heap_new1 w c.obj x.obj
  have HX0 : Hid (((w.alloc c.obj).alloc x.obj).heap[w.heap.size + 1]? = some x.obj) := heap_new2 w c.obj x.obj
  clear ht hf hn
  refine callsIn_wide.1 (callsIn_of_wp_marks (n := 3) (F := Fence.wide) Tryd.func9 rfl trivial (wpIn_wide.2 ?_) rfl)
  simp only [Tryd.ntmps9, List.size_toArray, List.length_cons, List.length_nil, Nat.reduceAdd, Nat.reduceSub, Array.replicate_succ, Array.replicate_zero, List.push_toArray, List.append_toArray, List.nil_append, List.cons_append]
  go_wp2_with fail
  refine (oawake_any _ (HT.out.below (Nat.le_refl _) HB0.out)).mono ?_
  rintro e w1 ⟨rfl, hb⟩
  have HB1 : Hid (Below w.heap.size w w1) := HB0.out.trans (hb.mono (by simp; omega))
  have HC1 : Hid (w1.heap[w.heap.size]? = some c.obj) := (hb.block _ (by simp; omega)).trans HC0.out
  have HX1 : Hid (w1.heap[w.heap.size + 1]? = some x.obj) := (hb.block _ (by simp)).trans HX0.out
  have HZ1 : Hid (w.heap.size + 1 < w1.heap.size) := block_lt HX1.out
  have HY2 : Hid ((w1.alloc x.obj).heap[w1.heap.size]? = some x.obj) := heap_alloc_new w1 x.obj
  have hk2 : Below w1.heap.size w1 (w1.alloc x.obj) := (Below.refl _ _).alloc (Nat.le_refl _) _
  have HX2 : Hid ((w1.alloc x.obj).heap[w.heap.size + 1]? = some x.obj) := (hk2.block _ (block_lt HX1.out)).trans HX1.out
  have HK2 := Lib.hid hk2
  clear hb hk2
  obtain ⟨x0, x1, x2, x3⟩ := opr_cells HX1.out
  obtain ⟨z0, z1, z2, z3⟩ := opr_cells HX2.out
  obtain ⟨y0, y1, y2, y3⟩ := opr_cells HY2.out
  have fy : ∀ i, (w1.alloc x.obj).frozen? ⟨w1.heap.size, i, none⟩ = false := fun i => frozen_of_block HY2.out i
  have hz1 := HZ1.out
  rcases rp_steps x with ⟨h1, h2⟩ | ⟨h1, h2⟩ | ⟨h1, h2⟩
  · have H1 := Lib.hid h1
    have H2 := Lib.hid h2
    clear h1 h2
    go_wp2_with fail
    refine (refpart_all _ x 1 (by omega)).mono ?_
    rintro e w3 ⟨rfl, hw⟩
    obtain rfl := hw.symm
    clear hw
    rw [H1.out]
    go_wp2_with fail
    refine (refpart_all _ x 2 (by omega)).mono ?_
    rintro e w3 ⟨rfl, hw⟩
    obtain rfl := hw.symm
    clear hw
    rw [H2.out]
    go_wp2_with fail
    rw [show (Obj.cells #[.int .i64 x.kind, .int .i64 x.a, .int .i64 n, .int .i64 n] 68) = (mask x n).obj by unfold mask Opr.obj; rw [if_pos H1.out, if_pos H2.out]]
    generalize mask x n = y at *
    have HY3 : Hid ((w1.alloc y.obj).heap[w1.heap.size]? = some y.obj) := heap_alloc_new w1 y.obj
    have hk3 : Below w1.heap.size w1 (w1.alloc y.obj) := (Below.refl _ _).alloc (Nat.le_refl _) _
    have HX3 : Hid ((w1.alloc y.obj).heap[w.heap.size + 1]? = some x.obj) := (hk3.block _ (block_lt HX1.out)).trans HX1.out
    have HC3 : Hid ((w1.alloc y.obj).heap[w.heap.size]? = some c.obj) := (hk3.block _ (block_lt HC1.out)).trans HC1.out
    have HB3 : Hid (Below w.heap.size w (w1.alloc y.obj)) := HB1.out.trans (hk3.mono HB1.out.size)
    have HZ3 : Hid (w1.heap.size < (w1.alloc y.obj).heap.size) := block_lt HY3.out
    clear hk3 x0 x1 x2 x3 z0 z1 z2 z3 y0 y1 y2 y3 fy hz1 HY2 HX2 HK2
    generalize w1.alloc y.obj = wr at *
    obtain ⟨x0, x1, x2, x3⟩ := opr_cells HX3.out
    obtain ⟨y0, y1, y2, y3⟩ := opr_cells HY3.out
    obtain ⟨k0, k1, k2, k3⟩ := Cfg.cells_at HC3.out
    have hz3 := HZ3.out
    have hz1 := HZ1.out
    have nes : ∀ s : ByteArray, (s.toList != s.toList) = false := fun s => by simp
    go_region_held3 (fun w' => w'.cell? ⟨w.heap.size, 0, none⟩ = some (.int .i64 c.cells) ∧ w'.cell? ⟨w.heap.size, 1, none⟩ = some (.int .i64 c.muts) ∧ w'.cell? ⟨w.heap.size, 2, none⟩ = some (.int .i64 c.regs) ∧ w'.cell? ⟨w.heap.size, 3, none⟩ = some (.int .i64 c.globs) ∧ w'.cell? ⟨w.heap.size + 1, 0, none⟩ = some (.int .i64 x.kind) ∧ w'.cell? ⟨w.heap.size + 1, 1, none⟩ = some (.int .i64 x.a) ∧ w'.cell? ⟨w.heap.size + 1, 2, none⟩ = some (.int .i64 x.b) ∧ w'.cell? ⟨w.heap.size + 1, 3, none⟩ = some (.int .i64 x.c) ∧ w'.cell? ⟨w1.heap.size, 0, none⟩ = some (.int .i64 y.kind) ∧ w'.cell? ⟨w1.heap.size, 1, none⟩ = some (.int .i64 y.a) ∧ w'.cell? ⟨w1.heap.size, 2, none⟩ = some (.int .i64 y.b) ∧ w'.cell? ⟨w1.heap.size, 3, none⟩ = some (.int .i64 y.c) ∧ w1.heap.size < w'.heap.size ∧ Below w.heap.size w w')
      (first
        | exact ⟨k0, k1, k2, k3, x0, x1, x2, x3, y0, y1, y2, y3, hz3, HB3.out⟩
        | exact ⟨k0, k1, k2, k3, x0, x1, x2, x3, y0, y1, y2, y3, hz3, HB3.out.drew⟩
        | (go_split_ands; refine ⟨?_, ?_, ?_, ?_, ?_, ?_, ?_, ?_, ?_, ?_, ?_, ?_, ?_, ?_⟩ <;> (first
              | assumption
              | (rw [hb2.cell (by first | (simp; done) | (simp; omega))]; assumption)
              | exact Nat.lt_of_lt_of_le (by assumption) hb2.size
              | exact Below.trans (by assumption) (hb2.mono (by first | omega | (simp; done) | (simp; omega)))
              | exact Below.drew (by assumption)))
        | fail)
      (first
        | (go_at_call_of 44 (Value.int IntKind.i64 x.kind); refine (ocheck_any _ c x).mono ?_; rintro e wq ⟨rfl, hb2⟩)
        | (go_at_call_of 44 (Value.int IntKind.i64 y.kind); refine (ocheck_any _ c y).mono ?_; rw [HE.out]; rintro e wq ⟨rfl, hb2⟩)
        | (go_at_call_of 45 (Value.int IntKind.i64 x.kind); refine (otext_any _ x HFX.out (HT.out.below (Nat.le_refl _) (by go_split_ands; assumption))).mono ?_; rintro e wq ⟨rfl, hb2⟩)
        | (go_at_call_of 45 (Value.int IntKind.i64 y.kind); refine (otext_any _ y HFY.out (HT.out.below (Nat.le_refl _) (by go_split_ands; assumption))).mono ?_; rw [HTX.out]; rintro e wq ⟨rfl, hb2⟩))
    have HXW := Lib.hid (show wq.cell? ⟨w.heap.size + 1, 0, none⟩ = some (.int .i64 x.kind) ∧ wq.cell? ⟨w.heap.size + 1, 1, none⟩ = some (.int .i64 x.a) ∧ wq.cell? ⟨w.heap.size + 1, 2, none⟩ = some (.int .i64 x.b) ∧ wq.cell? ⟨w.heap.size + 1, 3, none⟩ = some (.int .i64 x.c) by go_split_ands; exact ⟨by assumption, by assumption, by assumption, by assumption⟩)
    have HYW := Lib.hid (show wq.cell? ⟨w1.heap.size, 0, none⟩ = some (.int .i64 y.kind) ∧ wq.cell? ⟨w1.heap.size, 1, none⟩ = some (.int .i64 y.a) ∧ wq.cell? ⟨w1.heap.size, 2, none⟩ = some (.int .i64 y.b) ∧ wq.cell? ⟨w1.heap.size, 3, none⟩ = some (.int .i64 y.c) by go_split_ands; exact ⟨by assumption, by assumption, by assumption, by assumption⟩)
    have HBW := Lib.hid (show w1.heap.size < wq.heap.size ∧ Below w.heap.size w wq by go_split_ands; exact ⟨by assumption, by assumption⟩)
    clear x0 x1 x2 x3 y0 y1 y2 y3 k0 k1 k2 k3 hz3 hz1 nes
    rename_i hHeld
    clear hHeld hb2 HX3 HY3 HC3 HB3 HZ3 HB0 HC0 HX0 HB1 HC1 HX1 H1 H2
    obtain ⟨x0, x1, x2, x3⟩ := HXW.out
    have hzw := HBW.out.1
    have hzx : w.heap.size + 1 < wq.heap.size := by have := HZ1.out; omega
    have HWK : Hid (Below wq.heap.size wq ((wq.alloc (.cells #[.slice none 0 0] 34)).alloc (.cells #[.slice none 0 0] 34))) := ((Below.refl _ wq).alloc (Nat.le_refl _) _).alloc (by simp) _
    have a0 := (HWK.out.cell (p := ⟨w.heap.size + 1, 0, none⟩) hzx).trans x0
    have a1 := (HWK.out.cell (p := ⟨w.heap.size + 1, 1, none⟩) hzx).trans x1
    have a2 := (HWK.out.cell (p := ⟨w.heap.size + 1, 2, none⟩) hzx).trans x2
    have a3 := (HWK.out.cell (p := ⟨w.heap.size + 1, 3, none⟩) hzx).trans x3
    clear x0 x1 x2 x3 hzw hzx
    go_wp2_with fail
    refine (regsMk_any _ x).mono ?_
    rintro e w3 ⟨rfl, hw3⟩
    obtain rfl := hw3.symm
    clear hw3 a0 a1 a2 a3
    have hh1 := heap_new1 wq (.cells #[.slice none 0 0] 34) (.cells #[.slice none 0 0] 34)
    have hh2 := heap_new2 wq (.cells #[.slice none 0 0] 34) (.cells #[.slice none 0 0] 34)
    have HZ0 : Hid (((wq.alloc (.cells #[.slice none 0 0] 34)).alloc (.cells #[.slice none 0 0] 34)).heap.size = wq.heap.size + 2) := by unfold Hid; simp
    have HH1 := Lib.hid hh1
    have HH2 := Lib.hid hh2
    clear hh1 hh2
    generalize hw0 : (wq.alloc (.cells #[.slice none 0 0] 34)).alloc (.cells #[.slice none 0 0] 34) = w0 at *
    clear hw0
    obtain ⟨L, hL⟩ : ∃ L, L = oregs x := ⟨_, rfl⟩
    have HLX : Hid (oregs x = L) := hL.symm
    have HLY : Hid (oregs y = L) := HRX.out.trans hL.symm
    have HL3 : Hid (L.length ≤ 3) := by unfold Hid; rw [hL]; exact oregs_len x
    clear hL
    go_wp2_with fail
    obtain ⟨i0, hi0, hz00, hz01, hz02⟩ := info_int8'
    have HI0 := Lib.hid (And.intro hi0 (And.intro hz00 (And.intro hz01 hz02)))
    clear hi0 hz00 hz01 hz02
    have hz0 : w0.heap.size = wq.heap.size + 2 := HZ0.out
    have hx0 : (w0.alloc x.obj).heap[w0.heap.size]? = some x.obj := heap_alloc_new w0 x.obj
    have hb0 : Below w0.heap.size w0 (w0.alloc x.obj) := (Below.refl _ _).alloc (Nat.le_refl _) _
    have hzx : (w0.alloc x.obj).heap.size = wq.heap.size + 3 := by simp; omega
    have HA0 : Hid (Boxed (w0.alloc x.obj) wq.heap.size 34 (.slice none 0 0)) := (hb0.block _ (by omega)).trans HH1.out
    refine (wpIn_wide (n := 3)).1 (wpIn_rangeFunc_ownF rfl (by omega) (gf := 90) (lb := #[.pointer (some ⟨w0.heap.size, 0, none⟩)]) rfl trivial (enters_of Tryd.func90 (by kernel_rfl) rfl)
      (regs_stops 2 (by omega) w0.heap.size x _ hx0) rkp_t (rkp_b (block_lt hx0)) (Below.refl _ _) (fun _ => rfl)
      (fun pre W => (∃ v, Boxed W wq.heap.size 34 v ∧ W.ownsRow (w0.alloc x.obj).heap.size 3 1 v pre.length (pre.map (Value.int .i64)) ∧ True) ∧ Mid (w0.alloc x.obj).heap.size wq.heap.size (w0.alloc x.obj) W)
      (fun c pre W => False)
      (OwnFrom.and (Own.from (holdsRow_own (w0.alloc x.obj).heap.size wq.heap.size 34 3 1 (fun pre : List Int => pre.length) (fun pre => pre.map (Value.int .i64)) (fun _ _ => True)) _) (ownFrom_mid (Nat.le_refl _) (by omega) (Nat.le_refl _)))
      (fun c => fun s A B row hs hg hr => hs)
      ⟨⟨_, HA0.out, World.ownsRow_nil _ _ _ _, trivial⟩, Mid.refl _ _ _⟩
      ?acts4 ?assign4 ?body4 ?done4 ?stop4)
    all_goals clear hz0 hzx hx0 hb0
    case assign4 =>
      intro l r W K hK
      gi_wp2
      exact hK
    case body4 =>
      rintro l pre r W ⟨⟨v, hv, hrow, _⟩, hM⟩ hlt
      have hlt3 : pre.length < 3 := by have := HL3.out; rw [HLX.out] at hlt; omega
      have hvc := hv.cell
      have hvf := hv.frozen
      have hsz := hM.2.size
      have HM := Lib.hid hM
      have HV := Lib.hid hv
      have HRW := Lib.hid hrow
      have hAlt : wq.heap.size < (w0.alloc x.obj).heap.size := by have := HZ0.out; simp; omega
      have hAr : wq.heap.size ≠ w0.heap.size := by have := HZ0.out; omega
      have HLT := Lib.hid hAlt
      have HAR := Lib.hid hAr
      clear hM hv hrow hlt hAlt hAr
      obtain ⟨hi, hz0, hz1, hz2⟩ := HI0.out
      gi_wp2_with (gi_at_builtin; refine wpListIn_append_own _ rfl _ _ 34 rfl (w0.alloc x.obj).heap.size 3 i0 (.int .i64 0) 1 8 Tryd.underlying34 hi hz0 hz1 hz2 rfl (by decide) _ _ _ rfl (HRW.out.alloc _) ⟨W.heap.size, 0, none⟩ 1 1 [.int .i64 r] rfl rfl (cell_one_new _ _ _) (by simp [Value.oneCell']) (by unfold maxLen; omega) (by omega) (by simp; simp at hsz; omega) ?_; intro v' w1 hown' hgrow _; obtain ⟨g', cap', rfl⟩ := ownsRow_succ hown'; obtain ⟨hv1, hv2, hr2, hk2, hb2⟩ := boxed_app HV.out (by decide) HRW.out hsz HLT.out hown' hgrow; have hc1 := hv1.cell; have hf1 := hv1.frozen; have HQ := Lib.hid (And.intro hv2 (And.intro hr2 (And.intro hk2 hb2))); clear hv1 hv2 hr2 hk2 hb2 hown' hgrow)
      obtain ⟨q1, q2, q3, q4⟩ := HQ.out
      refine ⟨q3, ⟨q4.1 _ (by simp) (Ne.symm HAR.out), q3.walks⟩, ⟨_, q1, ?_, trivial⟩, HM.out.trans q4⟩
      rw [List.length_append, List.map_append]
      exact q2
    case done4 =>
      rintro D ys W hD rfl ⟨⟨v, hv, hrow, _⟩, hM⟩ hK
      rw [HLX.out] at hrow
      obtain ⟨V1, c1, g1, hv1, hV1, hg1⟩ := own_cells hrow
      subst hv1
      have hz0 := HZ0.out
      have hbA : Below wq.heap.size wq W := (HWK.out.trans (((Below.refl _ w0).alloc (Nat.le_refl _) x.obj).mono (by omega))).trans hM.2
      have HYC := HYW.out
      have hyz := HBW.out.1
      have y0 := (hbA.cell (p := ⟨w1.heap.size, 0, none⟩) hyz).trans HYC.1
      have y1 := (hbA.cell (p := ⟨w1.heap.size, 1, none⟩) hyz).trans HYC.2.1
      have y2 := (hbA.cell (p := ⟨w1.heap.size, 2, none⟩) hyz).trans HYC.2.2.1
      have y3 := (hbA.cell (p := ⟨w1.heap.size, 3, none⟩) hyz).trans HYC.2.2.2
      have hn0 : (w0.alloc x.obj).heap.size = wq.heap.size + 3 := by simp; omega
      have HBB : Hid (W.heap[wq.heap.size + 1]? = some (.cells #[.slice none 0 0] 34)) := (hM.1 _ (by omega) (by omega)).trans (((Below.refl _ w0).alloc (Nat.le_refl _) x.obj).block _ (by omega) |>.trans HH2.out)
      have HVA : Hid (Boxed W wq.heap.size 34 (.slice V1 L.length c1)) := hv
      have HWB : Hid (Below w.heap.size w W) := HBW.out.2.trans (hbA.mono (by have := HBW.out.2.size; omega))
      have hws : wq.heap.size + 3 ≤ W.heap.size := by have := hM.2.size; omega
      have HWS := Lib.hid hws
      have HG1 := Lib.hid hg1
      have HV1 := Lib.hid hV1
      have HK := Lib.hid hK
      have HGL : Hid (∀ i, i < L.length → g1 < W.heap.size ∧ wq.heap.size + 3 ≤ g1) := by
        intro i hi
        refine ⟨World.block_lt_of_cell? _ _ (hg1 i hi), ?_⟩
        obtain rfl := hV1 (by omega)
        have := (hrow.lt g1 (by simp [Value.ownBlock])).1
        omega
      have HDW := Lib.hid (And.intro hD (block_lt hK))
      clear hD hK hv hrow hV1 hg1 hbA HYC hyz hn0 hz0 hM hws
      go_wp2_with fail
      refine (regsMk_any _ y).mono ?_
      rintro e w4 ⟨rfl, hw4⟩
      obtain rfl := hw4.symm
      clear hw4 y0 y1 y2 y3
      go_wp2_with fail
      have hx0 : (W.alloc y.obj).heap[W.heap.size]? = some y.obj := heap_alloc_new W y.obj
      have hb0 : Below W.heap.size W (W.alloc y.obj) := (Below.refl _ _).alloc (Nat.le_refl _) _
      have hws := HWS.out
      have hn1 : (W.alloc y.obj).heap.size = W.heap.size + 1 := by simp
      have HA1 : Hid (Boxed (W.alloc y.obj) (wq.heap.size + 1) 34 (.slice none 0 0)) := (hb0.block _ (by omega)).trans HBB.out
      refine (wpIn_wide (n := 3)).1 (wpIn_rangeFunc_ownF rfl (by omega) (gf := 90) (lb := #[.pointer (some ⟨W.heap.size, 0, none⟩)]) rfl trivial (enters_of Tryd.func90 (by kernel_rfl) rfl)
        (regs_stops 2 (by omega) W.heap.size y _ hx0) rkp_t (rkp_b (block_lt hx0)) (Below.refl _ _) (fun _ => rfl)
        (fun pre W' => (∃ v, Boxed W' (wq.heap.size + 1) 34 v ∧ W'.ownsRow (W.alloc y.obj).heap.size 3 1 v pre.length (pre.map (Value.int .i64)) ∧ True) ∧ Mid (W.alloc y.obj).heap.size (wq.heap.size + 1) (W.alloc y.obj) W')
        (fun c pre W => False)
        (OwnFrom.and (Own.from (holdsRow_own (W.alloc y.obj).heap.size (wq.heap.size + 1) 34 3 1 (fun pre : List Int => pre.length) (fun pre => pre.map (Value.int .i64)) (fun _ _ => True)) _) (ownFrom_mid (Nat.le_refl _) (by omega) (Nat.le_refl _)))
        (fun c => fun s A B row hs hg hr => hs)
        ⟨⟨_, HA1.out, World.ownsRow_nil _ _ _ _, trivial⟩, Mid.refl _ _ _⟩
        ?bcts4 ?bssign4 ?bbody4 ?bdone4 ?bstop4)
      all_goals clear hx0 hb0 hws hn1
      case bssign4 =>
        intro l r W' K hK
        gi_wp2
        exact hK
      case bbody4 =>
        rintro l pre r V ⟨⟨v, hv, hrow, _⟩, hM⟩ hlt
        have hlt3 : pre.length < 3 := by have := HL3.out; rw [HLY.out] at hlt; omega
        have hvc := hv.cell
        have hvf := hv.frozen
        have hsz := hM.2.size
        have HM := Lib.hid hM
        have HV := Lib.hid hv
        have HRW := Lib.hid hrow
        have hAlt : wq.heap.size + 1 < (W.alloc y.obj).heap.size := by have := HWS.out; simp; omega
        have hAr : wq.heap.size + 1 ≠ W.heap.size := by have := HWS.out; omega
        have HLT := Lib.hid hAlt
        have HAR := Lib.hid hAr
        clear hM hv hrow hlt hAlt hAr
        obtain ⟨hi, hz0, hz1, hz2⟩ := HI0.out
        gi_wp2_with (gi_at_builtin; refine wpListIn_append_own _ rfl _ _ 34 rfl (W.alloc y.obj).heap.size 3 i0 (.int .i64 0) 1 8 Tryd.underlying34 hi hz0 hz1 hz2 rfl (by decide) _ _ _ rfl (HRW.out.alloc _) ⟨V.heap.size, 0, none⟩ 1 1 [.int .i64 r] rfl rfl (cell_one_new _ _ _) (by simp [Value.oneCell']) (by unfold maxLen; omega) (by omega) (by simp; simp at hsz; omega) ?_; intro v' w1 hown' hgrow _; obtain ⟨g', cap', rfl⟩ := ownsRow_succ hown'; obtain ⟨hv1, hv2, hr2, hk2, hb2⟩ := boxed_app HV.out (by decide) HRW.out hsz HLT.out hown' hgrow; have hc1 := hv1.cell; have hf1 := hv1.frozen; have HQ := Lib.hid (And.intro hv2 (And.intro hr2 (And.intro hk2 hb2))); clear hv1 hv2 hr2 hk2 hb2 hown' hgrow)
        obtain ⟨q1, q2, q3, q4⟩ := HQ.out
        refine ⟨q3, ⟨q4.1 _ (by simp) (Ne.symm HAR.out), q3.walks⟩, ⟨_, q1, ?_, trivial⟩, HM.out.trans q4⟩
        rw [List.length_append, List.map_append]
        exact q2
      case bstop4 =>
        rintro D c' pre W hD hpre hf hK
        exact hf.elim
      case bdone4 =>
        rintro E ys V hE rfl ⟨⟨v, hv, hrow, _⟩, hM⟩ hKE
        rw [HLY.out] at hrow
        obtain ⟨V2, c2, g2, hv2, hV2, hg2⟩ := own_cells hrow
        subst hv2
        have hws := HWS.out
        have hn1 : (W.alloc y.obj).heap.size = W.heap.size + 1 := by simp
        have hb0 : Below W.heap.size W (W.alloc y.obj) := (Below.refl _ _).alloc (Nat.le_refl _) _
        have hca : V.cell? ⟨wq.heap.size, 0, none⟩ = some (.slice V1 L.length c1) := (hM.2.cell (by show wq.heap.size < _; omega)).trans ((hb0.cell (by show wq.heap.size < _; omega)).trans HVA.out.cell)
        have hcb : V.cell? ⟨wq.heap.size + 1, 0, none⟩ = some (.slice V2 L.length c2) := hv.cell
        have HG2 := Lib.hid hg2
        have HV2 := Lib.hid hV2
        have HGA : Hid (∀ i, i < L.length → V.cell? ⟨g1, i, none⟩ = some (.int .i64 (wd L i))) := by
          intro i hi
          obtain ⟨l1, l2⟩ := HGL.out i hi
          rw [World.cell?_of_block (w := W) (a := ⟨g1, i, none⟩) ((hM.1 g1 (by omega) (by omega)).trans (hb0.block g1 l1))]
          exact HG1.out i hi
        have h9 : (w0.alloc x.obj).heap.size = w0.heap.size + 1 := by simp
        have hDne : D ≠ wq.heap.size + 1 := by have h7 := HDW.out.1; have h8 := HZ0.out; omega
        clear h9
        have HKD : Hid (V.heap[D]? = some (.deferred (some []))) := (hM.1 D (by have := HDW.out.2; omega) hDne).trans ((hb0.block D HDW.out.2).trans HK.out)
        have HKE := Lib.hid hKE
        have HVB : Hid (Below w.heap.size w V) := (HWB.out.trans (hb0.mono (by have := HWB.out.size; omega))).trans (hM.2.mono (by have := HBW.out.2.size; omega))
        have hl3 := HL3.out
        have d3 : decide ((3 : Int) < (L.length : Int)) = false := by simp; omega
        have d3' : decide (3 < L.length) = false := by simp; omega
        have dne : ((L.length : Int) != (L.length : Int)) = false := by simp
        clear hv hrow hV2 hg2 hws hn1 hb0 hM hKE hDne
        go_wp2_with fail
        go_loopw [12] (fun i wr => ∃ k : Nat, k ≤ L.length ∧ i = .int .i64 k ∧ Hid (∃ m : Nat, wr = V.drewN m)) (fun i _ => L.length - (intOf i).toNat)
        case atStart => exact ⟨0, Nat.zero_le _, rfl, 0, rfl⟩
        case round =>
          obtain ⟨k, hk, rfl, HWR⟩ := hrel
          obtain ⟨m, rfl⟩ := HWR.out
          by_cases hlt : k < L.length
          · obtain rfl := HV1.out (by omega)
            obtain rfl := HV2.out (by omega)
            have ca := HGA.out k hlt
            have cb := HG2.out k hlt
            have i1 : ((k : Nat) : Int) < ((L.length : Nat) : Int) := by omega
            go_wp2_with fail
            go_quiet (fail)
            go_wp2_with fail
            go_roundw
            case rel => exact ⟨k + 1, by omega, by go_num, _, rfl⟩
            case measure => simp [intOf]; omega
          · go_wp2_with fail
            have hEW : W.heap.size ≤ E := by have h9 : (W.alloc y.obj).heap.size = W.heap.size + 1 := (by simp); omega
            have hE1 := belowK_b (w := W) (Nat.le_refl _) (V.drewN m) E _ (.deferred none) hEW HKE.out rfl rfl
            have hD1 : ((V.drewN m).putObj E (.deferred none)).heap[D]? = some (.deferred (some [])) := (hE1.block D HDW.out.2).trans HKD.out
            have hD2 := belowK_b (w := w) (Nat.le_refl _) _ D _ (.deferred none) (by have h7 := HDW.out.1; have h8 := HZ0.out; have h6 := HBW.out.2.size; simp at h7; omega) hD1 rfl rfl
            refine ⟨by simp, .inl ⟨_, _, rfl, run_takeDeferred (w := V.drewN m) HKE.out, ?_⟩⟩
            refine ⟨by simp, .inl ⟨_, _, rfl, run_takeDeferred hD1, ?_⟩⟩
            refine ⟨.bool true, ?_, rfl, ((below_drewN HVB.out m).trans (hE1.mono HWB.out.size)).trans hD2⟩
            simp [results, Tryd.f9, go_sem]
    case stop4 =>
      rintro D c' pre W hD hpre hf hK
      exact hf.elim
  · have H1 := Lib.hid h1
    have H2 := Lib.hid h2
    have t1 : (rp x 1 == 0) = false := by rw [beq_eq_false_iff_ne]; exact h1
    clear h1 h2
    go_wp2_with fail
    refine (refpart_all _ x 1 (by omega)).mono ?_
    rintro e w3 ⟨rfl, hw⟩
    obtain rfl := hw.symm
    clear hw
    go_wp2_with fail
    refine (refpart_all _ x 2 (by omega)).mono ?_
    rintro e w3 ⟨rfl, hw⟩
    obtain rfl := hw.symm
    clear hw
    rw [H2.out]
    go_wp2_with fail
    rw [show (Obj.cells #[.int .i64 x.kind, .int .i64 x.a, .int .i64 x.b, .int .i64 n] 68) = (mask x n).obj by unfold mask Opr.obj; rw [if_neg H1.out, if_pos H2.out]]
    generalize mask x n = y at *
    have HY3 : Hid ((w1.alloc y.obj).heap[w1.heap.size]? = some y.obj) := heap_alloc_new w1 y.obj
    have hk3 : Below w1.heap.size w1 (w1.alloc y.obj) := (Below.refl _ _).alloc (Nat.le_refl _) _
    have HX3 : Hid ((w1.alloc y.obj).heap[w.heap.size + 1]? = some x.obj) := (hk3.block _ (block_lt HX1.out)).trans HX1.out
    have HC3 : Hid ((w1.alloc y.obj).heap[w.heap.size]? = some c.obj) := (hk3.block _ (block_lt HC1.out)).trans HC1.out
    have HB3 : Hid (Below w.heap.size w (w1.alloc y.obj)) := HB1.out.trans (hk3.mono HB1.out.size)
    have HZ3 : Hid (w1.heap.size < (w1.alloc y.obj).heap.size) := block_lt HY3.out
    clear hk3 x0 x1 x2 x3 z0 z1 z2 z3 y0 y1 y2 y3 fy hz1 HY2 HX2 HK2
    generalize w1.alloc y.obj = wr at *
    obtain ⟨x0, x1, x2, x3⟩ := opr_cells HX3.out
    obtain ⟨y0, y1, y2, y3⟩ := opr_cells HY3.out
    obtain ⟨k0, k1, k2, k3⟩ := Cfg.cells_at HC3.out
    have hz3 := HZ3.out
    have hz1 := HZ1.out
    have nes : ∀ s : ByteArray, (s.toList != s.toList) = false := fun s => by simp
    go_region_held3 (fun w' => w'.cell? ⟨w.heap.size, 0, none⟩ = some (.int .i64 c.cells) ∧ w'.cell? ⟨w.heap.size, 1, none⟩ = some (.int .i64 c.muts) ∧ w'.cell? ⟨w.heap.size, 2, none⟩ = some (.int .i64 c.regs) ∧ w'.cell? ⟨w.heap.size, 3, none⟩ = some (.int .i64 c.globs) ∧ w'.cell? ⟨w.heap.size + 1, 0, none⟩ = some (.int .i64 x.kind) ∧ w'.cell? ⟨w.heap.size + 1, 1, none⟩ = some (.int .i64 x.a) ∧ w'.cell? ⟨w.heap.size + 1, 2, none⟩ = some (.int .i64 x.b) ∧ w'.cell? ⟨w.heap.size + 1, 3, none⟩ = some (.int .i64 x.c) ∧ w'.cell? ⟨w1.heap.size, 0, none⟩ = some (.int .i64 y.kind) ∧ w'.cell? ⟨w1.heap.size, 1, none⟩ = some (.int .i64 y.a) ∧ w'.cell? ⟨w1.heap.size, 2, none⟩ = some (.int .i64 y.b) ∧ w'.cell? ⟨w1.heap.size, 3, none⟩ = some (.int .i64 y.c) ∧ w1.heap.size < w'.heap.size ∧ Below w.heap.size w w')
      (first
        | exact ⟨k0, k1, k2, k3, x0, x1, x2, x3, y0, y1, y2, y3, hz3, HB3.out⟩
        | exact ⟨k0, k1, k2, k3, x0, x1, x2, x3, y0, y1, y2, y3, hz3, HB3.out.drew⟩
        | (go_split_ands; refine ⟨?_, ?_, ?_, ?_, ?_, ?_, ?_, ?_, ?_, ?_, ?_, ?_, ?_, ?_⟩ <;> (first
              | assumption
              | (rw [hb2.cell (by first | (simp; done) | (simp; omega))]; assumption)
              | exact Nat.lt_of_lt_of_le (by assumption) hb2.size
              | exact Below.trans (by assumption) (hb2.mono (by first | omega | (simp; done) | (simp; omega)))
              | exact Below.drew (by assumption)))
        | fail)
      (first
        | (go_at_call_of 44 (Value.int IntKind.i64 x.kind); refine (ocheck_any _ c x).mono ?_; rintro e wq ⟨rfl, hb2⟩)
        | (go_at_call_of 44 (Value.int IntKind.i64 y.kind); refine (ocheck_any _ c y).mono ?_; rw [HE.out]; rintro e wq ⟨rfl, hb2⟩)
        | (go_at_call_of 45 (Value.int IntKind.i64 x.kind); refine (otext_any _ x HFX.out (HT.out.below (Nat.le_refl _) (by go_split_ands; assumption))).mono ?_; rintro e wq ⟨rfl, hb2⟩)
        | (go_at_call_of 45 (Value.int IntKind.i64 y.kind); refine (otext_any _ y HFY.out (HT.out.below (Nat.le_refl _) (by go_split_ands; assumption))).mono ?_; rw [HTX.out]; rintro e wq ⟨rfl, hb2⟩))
    have HXW := Lib.hid (show wq.cell? ⟨w.heap.size + 1, 0, none⟩ = some (.int .i64 x.kind) ∧ wq.cell? ⟨w.heap.size + 1, 1, none⟩ = some (.int .i64 x.a) ∧ wq.cell? ⟨w.heap.size + 1, 2, none⟩ = some (.int .i64 x.b) ∧ wq.cell? ⟨w.heap.size + 1, 3, none⟩ = some (.int .i64 x.c) by go_split_ands; exact ⟨by assumption, by assumption, by assumption, by assumption⟩)
    have HYW := Lib.hid (show wq.cell? ⟨w1.heap.size, 0, none⟩ = some (.int .i64 y.kind) ∧ wq.cell? ⟨w1.heap.size, 1, none⟩ = some (.int .i64 y.a) ∧ wq.cell? ⟨w1.heap.size, 2, none⟩ = some (.int .i64 y.b) ∧ wq.cell? ⟨w1.heap.size, 3, none⟩ = some (.int .i64 y.c) by go_split_ands; exact ⟨by assumption, by assumption, by assumption, by assumption⟩)
    have HBW := Lib.hid (show w1.heap.size < wq.heap.size ∧ Below w.heap.size w wq by go_split_ands; exact ⟨by assumption, by assumption⟩)
    clear x0 x1 x2 x3 y0 y1 y2 y3 k0 k1 k2 k3 hz3 hz1 nes
    rename_i hHeld
    clear hHeld hb2 HX3 HY3 HC3 HB3 HZ3 HB0 HC0 HX0 HB1 HC1 HX1 H1 H2
    obtain ⟨x0, x1, x2, x3⟩ := HXW.out
    have hzw := HBW.out.1
    have hzx : w.heap.size + 1 < wq.heap.size := by have := HZ1.out; omega
    have HWK : Hid (Below wq.heap.size wq ((wq.alloc (.cells #[.slice none 0 0] 34)).alloc (.cells #[.slice none 0 0] 34))) := ((Below.refl _ wq).alloc (Nat.le_refl _) _).alloc (by simp) _
    have a0 := (HWK.out.cell (p := ⟨w.heap.size + 1, 0, none⟩) hzx).trans x0
    have a1 := (HWK.out.cell (p := ⟨w.heap.size + 1, 1, none⟩) hzx).trans x1
    have a2 := (HWK.out.cell (p := ⟨w.heap.size + 1, 2, none⟩) hzx).trans x2
    have a3 := (HWK.out.cell (p := ⟨w.heap.size + 1, 3, none⟩) hzx).trans x3
    clear x0 x1 x2 x3 hzw hzx
    go_wp2_with fail
    refine (regsMk_any _ x).mono ?_
    rintro e w3 ⟨rfl, hw3⟩
    obtain rfl := hw3.symm
    clear hw3 a0 a1 a2 a3
    have hh1 := heap_new1 wq (.cells #[.slice none 0 0] 34) (.cells #[.slice none 0 0] 34)
    have hh2 := heap_new2 wq (.cells #[.slice none 0 0] 34) (.cells #[.slice none 0 0] 34)
    have HZ0 : Hid (((wq.alloc (.cells #[.slice none 0 0] 34)).alloc (.cells #[.slice none 0 0] 34)).heap.size = wq.heap.size + 2) := by unfold Hid; simp
    have HH1 := Lib.hid hh1
    have HH2 := Lib.hid hh2
    clear hh1 hh2
    generalize hw0 : (wq.alloc (.cells #[.slice none 0 0] 34)).alloc (.cells #[.slice none 0 0] 34) = w0 at *
    clear hw0
    obtain ⟨L, hL⟩ : ∃ L, L = oregs x := ⟨_, rfl⟩
    have HLX : Hid (oregs x = L) := hL.symm
    have HLY : Hid (oregs y = L) := HRX.out.trans hL.symm
    have HL3 : Hid (L.length ≤ 3) := by unfold Hid; rw [hL]; exact oregs_len x
    clear hL
    go_wp2_with fail
    obtain ⟨i0, hi0, hz00, hz01, hz02⟩ := info_int8'
    have HI0 := Lib.hid (And.intro hi0 (And.intro hz00 (And.intro hz01 hz02)))
    clear hi0 hz00 hz01 hz02
    have hz0 : w0.heap.size = wq.heap.size + 2 := HZ0.out
    have hx0 : (w0.alloc x.obj).heap[w0.heap.size]? = some x.obj := heap_alloc_new w0 x.obj
    have hb0 : Below w0.heap.size w0 (w0.alloc x.obj) := (Below.refl _ _).alloc (Nat.le_refl _) _
    have hzx : (w0.alloc x.obj).heap.size = wq.heap.size + 3 := by simp; omega
    have HA0 : Hid (Boxed (w0.alloc x.obj) wq.heap.size 34 (.slice none 0 0)) := (hb0.block _ (by omega)).trans HH1.out
    refine (wpIn_wide (n := 3)).1 (wpIn_rangeFunc_ownF rfl (by omega) (gf := 90) (lb := #[.pointer (some ⟨w0.heap.size, 0, none⟩)]) rfl trivial (enters_of Tryd.func90 (by kernel_rfl) rfl)
      (regs_stops 2 (by omega) w0.heap.size x _ hx0) rkp_t (rkp_b (block_lt hx0)) (Below.refl _ _) (fun _ => rfl)
      (fun pre W => (∃ v, Boxed W wq.heap.size 34 v ∧ W.ownsRow (w0.alloc x.obj).heap.size 3 1 v pre.length (pre.map (Value.int .i64)) ∧ True) ∧ Mid (w0.alloc x.obj).heap.size wq.heap.size (w0.alloc x.obj) W)
      (fun c pre W => False)
      (OwnFrom.and (Own.from (holdsRow_own (w0.alloc x.obj).heap.size wq.heap.size 34 3 1 (fun pre : List Int => pre.length) (fun pre => pre.map (Value.int .i64)) (fun _ _ => True)) _) (ownFrom_mid (Nat.le_refl _) (by omega) (Nat.le_refl _)))
      (fun c => fun s A B row hs hg hr => hs)
      ⟨⟨_, HA0.out, World.ownsRow_nil _ _ _ _, trivial⟩, Mid.refl _ _ _⟩
      ?acts2 ?assign2 ?body2 ?done2 ?stop2)
    all_goals clear hz0 hzx hx0 hb0
    case assign2 =>
      intro l r W K hK
      gi_wp2
      exact hK
    case body2 =>
      rintro l pre r W ⟨⟨v, hv, hrow, _⟩, hM⟩ hlt
      have hlt3 : pre.length < 3 := by have := HL3.out; rw [HLX.out] at hlt; omega
      have hvc := hv.cell
      have hvf := hv.frozen
      have hsz := hM.2.size
      have HM := Lib.hid hM
      have HV := Lib.hid hv
      have HRW := Lib.hid hrow
      have hAlt : wq.heap.size < (w0.alloc x.obj).heap.size := by have := HZ0.out; simp; omega
      have hAr : wq.heap.size ≠ w0.heap.size := by have := HZ0.out; omega
      have HLT := Lib.hid hAlt
      have HAR := Lib.hid hAr
      clear hM hv hrow hlt hAlt hAr
      obtain ⟨hi, hz0, hz1, hz2⟩ := HI0.out
      gi_wp2_with (gi_at_builtin; refine wpListIn_append_own _ rfl _ _ 34 rfl (w0.alloc x.obj).heap.size 3 i0 (.int .i64 0) 1 8 Tryd.underlying34 hi hz0 hz1 hz2 rfl (by decide) _ _ _ rfl (HRW.out.alloc _) ⟨W.heap.size, 0, none⟩ 1 1 [.int .i64 r] rfl rfl (cell_one_new _ _ _) (by simp [Value.oneCell']) (by unfold maxLen; omega) (by omega) (by simp; simp at hsz; omega) ?_; intro v' w1 hown' hgrow _; obtain ⟨g', cap', rfl⟩ := ownsRow_succ hown'; obtain ⟨hv1, hv2, hr2, hk2, hb2⟩ := boxed_app HV.out (by decide) HRW.out hsz HLT.out hown' hgrow; have hc1 := hv1.cell; have hf1 := hv1.frozen; have HQ := Lib.hid (And.intro hv2 (And.intro hr2 (And.intro hk2 hb2))); clear hv1 hv2 hr2 hk2 hb2 hown' hgrow)
      obtain ⟨q1, q2, q3, q4⟩ := HQ.out
      refine ⟨q3, ⟨q4.1 _ (by simp) (Ne.symm HAR.out), q3.walks⟩, ⟨_, q1, ?_, trivial⟩, HM.out.trans q4⟩
      rw [List.length_append, List.map_append]
      exact q2
    case done2 =>
      rintro D ys W hD rfl ⟨⟨v, hv, hrow, _⟩, hM⟩ hK
      rw [HLX.out] at hrow
      obtain ⟨V1, c1, g1, hv1, hV1, hg1⟩ := own_cells hrow
      subst hv1
      have hz0 := HZ0.out
      have hbA : Below wq.heap.size wq W := (HWK.out.trans (((Below.refl _ w0).alloc (Nat.le_refl _) x.obj).mono (by omega))).trans hM.2
      have HYC := HYW.out
      have hyz := HBW.out.1
      have y0 := (hbA.cell (p := ⟨w1.heap.size, 0, none⟩) hyz).trans HYC.1
      have y1 := (hbA.cell (p := ⟨w1.heap.size, 1, none⟩) hyz).trans HYC.2.1
      have y2 := (hbA.cell (p := ⟨w1.heap.size, 2, none⟩) hyz).trans HYC.2.2.1
      have y3 := (hbA.cell (p := ⟨w1.heap.size, 3, none⟩) hyz).trans HYC.2.2.2
      have hn0 : (w0.alloc x.obj).heap.size = wq.heap.size + 3 := by simp; omega
      have HBB : Hid (W.heap[wq.heap.size + 1]? = some (.cells #[.slice none 0 0] 34)) := (hM.1 _ (by omega) (by omega)).trans (((Below.refl _ w0).alloc (Nat.le_refl _) x.obj).block _ (by omega) |>.trans HH2.out)
      have HVA : Hid (Boxed W wq.heap.size 34 (.slice V1 L.length c1)) := hv
      have HWB : Hid (Below w.heap.size w W) := HBW.out.2.trans (hbA.mono (by have := HBW.out.2.size; omega))
      have hws : wq.heap.size + 3 ≤ W.heap.size := by have := hM.2.size; omega
      have HWS := Lib.hid hws
      have HG1 := Lib.hid hg1
      have HV1 := Lib.hid hV1
      have HK := Lib.hid hK
      have HGL : Hid (∀ i, i < L.length → g1 < W.heap.size ∧ wq.heap.size + 3 ≤ g1) := by
        intro i hi
        refine ⟨World.block_lt_of_cell? _ _ (hg1 i hi), ?_⟩
        obtain rfl := hV1 (by omega)
        have := (hrow.lt g1 (by simp [Value.ownBlock])).1
        omega
      have HDW := Lib.hid (And.intro hD (block_lt hK))
      clear hD hK hv hrow hV1 hg1 hbA HYC hyz hn0 hz0 hM hws
      go_wp2_with fail
      refine (regsMk_any _ y).mono ?_
      rintro e w4 ⟨rfl, hw4⟩
      obtain rfl := hw4.symm
      clear hw4 y0 y1 y2 y3
      go_wp2_with fail
      have hx0 : (W.alloc y.obj).heap[W.heap.size]? = some y.obj := heap_alloc_new W y.obj
      have hb0 : Below W.heap.size W (W.alloc y.obj) := (Below.refl _ _).alloc (Nat.le_refl _) _
      have hws := HWS.out
      have hn1 : (W.alloc y.obj).heap.size = W.heap.size + 1 := by simp
      have HA1 : Hid (Boxed (W.alloc y.obj) (wq.heap.size + 1) 34 (.slice none 0 0)) := (hb0.block _ (by omega)).trans HBB.out
      refine (wpIn_wide (n := 3)).1 (wpIn_rangeFunc_ownF rfl (by omega) (gf := 90) (lb := #[.pointer (some ⟨W.heap.size, 0, none⟩)]) rfl trivial (enters_of Tryd.func90 (by kernel_rfl) rfl)
        (regs_stops 2 (by omega) W.heap.size y _ hx0) rkp_t (rkp_b (block_lt hx0)) (Below.refl _ _) (fun _ => rfl)
        (fun pre W' => (∃ v, Boxed W' (wq.heap.size + 1) 34 v ∧ W'.ownsRow (W.alloc y.obj).heap.size 3 1 v pre.length (pre.map (Value.int .i64)) ∧ True) ∧ Mid (W.alloc y.obj).heap.size (wq.heap.size + 1) (W.alloc y.obj) W')
        (fun c pre W => False)
        (OwnFrom.and (Own.from (holdsRow_own (W.alloc y.obj).heap.size (wq.heap.size + 1) 34 3 1 (fun pre : List Int => pre.length) (fun pre => pre.map (Value.int .i64)) (fun _ _ => True)) _) (ownFrom_mid (Nat.le_refl _) (by omega) (Nat.le_refl _)))
        (fun c => fun s A B row hs hg hr => hs)
        ⟨⟨_, HA1.out, World.ownsRow_nil _ _ _ _, trivial⟩, Mid.refl _ _ _⟩
        ?bcts2 ?bssign2 ?bbody2 ?bdone2 ?bstop2)
      all_goals clear hx0 hb0 hws hn1
      case bssign2 =>
        intro l r W' K hK
        gi_wp2
        exact hK
      case bbody2 =>
        rintro l pre r V ⟨⟨v, hv, hrow, _⟩, hM⟩ hlt
        have hlt3 : pre.length < 3 := by have := HL3.out; rw [HLY.out] at hlt; omega
        have hvc := hv.cell
        have hvf := hv.frozen
        have hsz := hM.2.size
        have HM := Lib.hid hM
        have HV := Lib.hid hv
        have HRW := Lib.hid hrow
        have hAlt : wq.heap.size + 1 < (W.alloc y.obj).heap.size := by have := HWS.out; simp; omega
        have hAr : wq.heap.size + 1 ≠ W.heap.size := by have := HWS.out; omega
        have HLT := Lib.hid hAlt
        have HAR := Lib.hid hAr
        clear hM hv hrow hlt hAlt hAr
        obtain ⟨hi, hz0, hz1, hz2⟩ := HI0.out
        gi_wp2_with (gi_at_builtin; refine wpListIn_append_own _ rfl _ _ 34 rfl (W.alloc y.obj).heap.size 3 i0 (.int .i64 0) 1 8 Tryd.underlying34 hi hz0 hz1 hz2 rfl (by decide) _ _ _ rfl (HRW.out.alloc _) ⟨V.heap.size, 0, none⟩ 1 1 [.int .i64 r] rfl rfl (cell_one_new _ _ _) (by simp [Value.oneCell']) (by unfold maxLen; omega) (by omega) (by simp; simp at hsz; omega) ?_; intro v' w1 hown' hgrow _; obtain ⟨g', cap', rfl⟩ := ownsRow_succ hown'; obtain ⟨hv1, hv2, hr2, hk2, hb2⟩ := boxed_app HV.out (by decide) HRW.out hsz HLT.out hown' hgrow; have hc1 := hv1.cell; have hf1 := hv1.frozen; have HQ := Lib.hid (And.intro hv2 (And.intro hr2 (And.intro hk2 hb2))); clear hv1 hv2 hr2 hk2 hb2 hown' hgrow)
        obtain ⟨q1, q2, q3, q4⟩ := HQ.out
        refine ⟨q3, ⟨q4.1 _ (by simp) (Ne.symm HAR.out), q3.walks⟩, ⟨_, q1, ?_, trivial⟩, HM.out.trans q4⟩
        rw [List.length_append, List.map_append]
        exact q2
      case bstop2 =>
        rintro D c' pre W hD hpre hf hK
        exact hf.elim
      case bdone2 =>
        rintro E ys V hE rfl ⟨⟨v, hv, hrow, _⟩, hM⟩ hKE
        rw [HLY.out] at hrow
        obtain ⟨V2, c2, g2, hv2, hV2, hg2⟩ := own_cells hrow
        subst hv2
        have hws := HWS.out
        have hn1 : (W.alloc y.obj).heap.size = W.heap.size + 1 := by simp
        have hb0 : Below W.heap.size W (W.alloc y.obj) := (Below.refl _ _).alloc (Nat.le_refl _) _
        have hca : V.cell? ⟨wq.heap.size, 0, none⟩ = some (.slice V1 L.length c1) := (hM.2.cell (by show wq.heap.size < _; omega)).trans ((hb0.cell (by show wq.heap.size < _; omega)).trans HVA.out.cell)
        have hcb : V.cell? ⟨wq.heap.size + 1, 0, none⟩ = some (.slice V2 L.length c2) := hv.cell
        have HG2 := Lib.hid hg2
        have HV2 := Lib.hid hV2
        have HGA : Hid (∀ i, i < L.length → V.cell? ⟨g1, i, none⟩ = some (.int .i64 (wd L i))) := by
          intro i hi
          obtain ⟨l1, l2⟩ := HGL.out i hi
          rw [World.cell?_of_block (w := W) (a := ⟨g1, i, none⟩) ((hM.1 g1 (by omega) (by omega)).trans (hb0.block g1 l1))]
          exact HG1.out i hi
        have h9 : (w0.alloc x.obj).heap.size = w0.heap.size + 1 := by simp
        have hDne : D ≠ wq.heap.size + 1 := by have h7 := HDW.out.1; have h8 := HZ0.out; omega
        clear h9
        have HKD : Hid (V.heap[D]? = some (.deferred (some []))) := (hM.1 D (by have := HDW.out.2; omega) hDne).trans ((hb0.block D HDW.out.2).trans HK.out)
        have HKE := Lib.hid hKE
        have HVB : Hid (Below w.heap.size w V) := (HWB.out.trans (hb0.mono (by have := HWB.out.size; omega))).trans (hM.2.mono (by have := HBW.out.2.size; omega))
        have hl3 := HL3.out
        have d3 : decide ((3 : Int) < (L.length : Int)) = false := by simp; omega
        have d3' : decide (3 < L.length) = false := by simp; omega
        have dne : ((L.length : Int) != (L.length : Int)) = false := by simp
        clear hv hrow hV2 hg2 hws hn1 hb0 hM hKE hDne
        go_wp2_with fail
        go_loopw [12] (fun i wr => ∃ k : Nat, k ≤ L.length ∧ i = .int .i64 k ∧ Hid (∃ m : Nat, wr = V.drewN m)) (fun i _ => L.length - (intOf i).toNat)
        case atStart => exact ⟨0, Nat.zero_le _, rfl, 0, rfl⟩
        case round =>
          obtain ⟨k, hk, rfl, HWR⟩ := hrel
          obtain ⟨m, rfl⟩ := HWR.out
          by_cases hlt : k < L.length
          · obtain rfl := HV1.out (by omega)
            obtain rfl := HV2.out (by omega)
            have ca := HGA.out k hlt
            have cb := HG2.out k hlt
            have i1 : ((k : Nat) : Int) < ((L.length : Nat) : Int) := by omega
            go_wp2_with fail
            go_quiet (fail)
            go_wp2_with fail
            go_roundw
            case rel => exact ⟨k + 1, by omega, by go_num, _, rfl⟩
            case measure => simp [intOf]; omega
          · go_wp2_with fail
            have hEW : W.heap.size ≤ E := by have h9 : (W.alloc y.obj).heap.size = W.heap.size + 1 := (by simp); omega
            have hE1 := belowK_b (w := W) (Nat.le_refl _) (V.drewN m) E _ (.deferred none) hEW HKE.out rfl rfl
            have hD1 : ((V.drewN m).putObj E (.deferred none)).heap[D]? = some (.deferred (some [])) := (hE1.block D HDW.out.2).trans HKD.out
            have hD2 := belowK_b (w := w) (Nat.le_refl _) _ D _ (.deferred none) (by have h7 := HDW.out.1; have h8 := HZ0.out; have h6 := HBW.out.2.size; simp at h7; omega) hD1 rfl rfl
            refine ⟨by simp, .inl ⟨_, _, rfl, run_takeDeferred (w := V.drewN m) HKE.out, ?_⟩⟩
            refine ⟨by simp, .inl ⟨_, _, rfl, run_takeDeferred hD1, ?_⟩⟩
            refine ⟨.bool true, ?_, rfl, ((below_drewN HVB.out m).trans (hE1.mono HWB.out.size)).trans hD2⟩
            simp [results, Tryd.f9, go_sem]
    case stop2 =>
      rintro D c' pre W hD hpre hf hK
      exact hf.elim
  · have H1 := Lib.hid h1
    have H2 := Lib.hid h2
    have t1 : (rp x 1 == 0) = false := by rw [beq_eq_false_iff_ne]; exact h1
    have t2 : (rp x 2 == 0) = false := by rw [beq_eq_false_iff_ne]; exact h2
    clear h1 h2
    go_wp2_with fail
    refine (refpart_all _ x 1 (by omega)).mono ?_
    rintro e w3 ⟨rfl, hw⟩
    obtain rfl := hw.symm
    clear hw
    go_wp2_with fail
    refine (refpart_all _ x 2 (by omega)).mono ?_
    rintro e w3 ⟨rfl, hw⟩
    obtain rfl := hw.symm
    clear hw
    go_wp2_with fail
    rw [show (Obj.cells #[.int .i64 x.kind, .int .i64 x.a, .int .i64 x.b, .int .i64 x.c] 68) = (mask x n).obj by unfold mask Opr.obj; rw [if_neg H1.out, if_neg H2.out]]
    generalize mask x n = y at *
    have HY3 : Hid ((w1.alloc y.obj).heap[w1.heap.size]? = some y.obj) := heap_alloc_new w1 y.obj
    have hk3 : Below w1.heap.size w1 (w1.alloc y.obj) := (Below.refl _ _).alloc (Nat.le_refl _) _
    have HX3 : Hid ((w1.alloc y.obj).heap[w.heap.size + 1]? = some x.obj) := (hk3.block _ (block_lt HX1.out)).trans HX1.out
    have HC3 : Hid ((w1.alloc y.obj).heap[w.heap.size]? = some c.obj) := (hk3.block _ (block_lt HC1.out)).trans HC1.out
    have HB3 : Hid (Below w.heap.size w (w1.alloc y.obj)) := HB1.out.trans (hk3.mono HB1.out.size)
    have HZ3 : Hid (w1.heap.size < (w1.alloc y.obj).heap.size) := block_lt HY3.out
    clear hk3 x0 x1 x2 x3 z0 z1 z2 z3 y0 y1 y2 y3 fy hz1 HY2 HX2 HK2
    generalize w1.alloc y.obj = wr at *
    obtain ⟨x0, x1, x2, x3⟩ := opr_cells HX3.out
    obtain ⟨y0, y1, y2, y3⟩ := opr_cells HY3.out
    obtain ⟨k0, k1, k2, k3⟩ := Cfg.cells_at HC3.out
    have hz3 := HZ3.out
    have hz1 := HZ1.out
    have nes : ∀ s : ByteArray, (s.toList != s.toList) = false := fun s => by simp
    go_region_held3 (fun w' => w'.cell? ⟨w.heap.size, 0, none⟩ = some (.int .i64 c.cells) ∧ w'.cell? ⟨w.heap.size, 1, none⟩ = some (.int .i64 c.muts) ∧ w'.cell? ⟨w.heap.size, 2, none⟩ = some (.int .i64 c.regs) ∧ w'.cell? ⟨w.heap.size, 3, none⟩ = some (.int .i64 c.globs) ∧ w'.cell? ⟨w.heap.size + 1, 0, none⟩ = some (.int .i64 x.kind) ∧ w'.cell? ⟨w.heap.size + 1, 1, none⟩ = some (.int .i64 x.a) ∧ w'.cell? ⟨w.heap.size + 1, 2, none⟩ = some (.int .i64 x.b) ∧ w'.cell? ⟨w.heap.size + 1, 3, none⟩ = some (.int .i64 x.c) ∧ w'.cell? ⟨w1.heap.size, 0, none⟩ = some (.int .i64 y.kind) ∧ w'.cell? ⟨w1.heap.size, 1, none⟩ = some (.int .i64 y.a) ∧ w'.cell? ⟨w1.heap.size, 2, none⟩ = some (.int .i64 y.b) ∧ w'.cell? ⟨w1.heap.size, 3, none⟩ = some (.int .i64 y.c) ∧ w1.heap.size < w'.heap.size ∧ Below w.heap.size w w')
      (first
        | exact ⟨k0, k1, k2, k3, x0, x1, x2, x3, y0, y1, y2, y3, hz3, HB3.out⟩
        | exact ⟨k0, k1, k2, k3, x0, x1, x2, x3, y0, y1, y2, y3, hz3, HB3.out.drew⟩
        | (go_split_ands; refine ⟨?_, ?_, ?_, ?_, ?_, ?_, ?_, ?_, ?_, ?_, ?_, ?_, ?_, ?_⟩ <;> (first
              | assumption
              | (rw [hb2.cell (by first | (simp; done) | (simp; omega))]; assumption)
              | exact Nat.lt_of_lt_of_le (by assumption) hb2.size
              | exact Below.trans (by assumption) (hb2.mono (by first | omega | (simp; done) | (simp; omega)))
              | exact Below.drew (by assumption)))
        | fail)
      (first
        | (go_at_call_of 44 (Value.int IntKind.i64 x.kind); refine (ocheck_any _ c x).mono ?_; rintro e wq ⟨rfl, hb2⟩)
        | (go_at_call_of 44 (Value.int IntKind.i64 y.kind); refine (ocheck_any _ c y).mono ?_; rw [HE.out]; rintro e wq ⟨rfl, hb2⟩)
        | (go_at_call_of 45 (Value.int IntKind.i64 x.kind); refine (otext_any _ x HFX.out (HT.out.below (Nat.le_refl _) (by go_split_ands; assumption))).mono ?_; rintro e wq ⟨rfl, hb2⟩)
        | (go_at_call_of 45 (Value.int IntKind.i64 y.kind); refine (otext_any _ y HFY.out (HT.out.below (Nat.le_refl _) (by go_split_ands; assumption))).mono ?_; rw [HTX.out]; rintro e wq ⟨rfl, hb2⟩))
    have HXW := Lib.hid (show wq.cell? ⟨w.heap.size + 1, 0, none⟩ = some (.int .i64 x.kind) ∧ wq.cell? ⟨w.heap.size + 1, 1, none⟩ = some (.int .i64 x.a) ∧ wq.cell? ⟨w.heap.size + 1, 2, none⟩ = some (.int .i64 x.b) ∧ wq.cell? ⟨w.heap.size + 1, 3, none⟩ = some (.int .i64 x.c) by go_split_ands; exact ⟨by assumption, by assumption, by assumption, by assumption⟩)
    have HYW := Lib.hid (show wq.cell? ⟨w1.heap.size, 0, none⟩ = some (.int .i64 y.kind) ∧ wq.cell? ⟨w1.heap.size, 1, none⟩ = some (.int .i64 y.a) ∧ wq.cell? ⟨w1.heap.size, 2, none⟩ = some (.int .i64 y.b) ∧ wq.cell? ⟨w1.heap.size, 3, none⟩ = some (.int .i64 y.c) by go_split_ands; exact ⟨by assumption, by assumption, by assumption, by assumption⟩)
    have HBW := Lib.hid (show w1.heap.size < wq.heap.size ∧ Below w.heap.size w wq by go_split_ands; exact ⟨by assumption, by assumption⟩)
    clear x0 x1 x2 x3 y0 y1 y2 y3 k0 k1 k2 k3 hz3 hz1 nes
    rename_i hHeld
    clear hHeld hb2 HX3 HY3 HC3 HB3 HZ3 HB0 HC0 HX0 HB1 HC1 HX1 H1 H2
    obtain ⟨x0, x1, x2, x3⟩ := HXW.out
    have hzw := HBW.out.1
    have hzx : w.heap.size + 1 < wq.heap.size := by have := HZ1.out; omega
    have HWK : Hid (Below wq.heap.size wq ((wq.alloc (.cells #[.slice none 0 0] 34)).alloc (.cells #[.slice none 0 0] 34))) := ((Below.refl _ wq).alloc (Nat.le_refl _) _).alloc (by simp) _
    have a0 := (HWK.out.cell (p := ⟨w.heap.size + 1, 0, none⟩) hzx).trans x0
    have a1 := (HWK.out.cell (p := ⟨w.heap.size + 1, 1, none⟩) hzx).trans x1
    have a2 := (HWK.out.cell (p := ⟨w.heap.size + 1, 2, none⟩) hzx).trans x2
    have a3 := (HWK.out.cell (p := ⟨w.heap.size + 1, 3, none⟩) hzx).trans x3
    clear x0 x1 x2 x3 hzw hzx
    go_wp2_with fail
    refine (regsMk_any _ x).mono ?_
    rintro e w3 ⟨rfl, hw3⟩
    obtain rfl := hw3.symm
    clear hw3 a0 a1 a2 a3
    have hh1 := heap_new1 wq (.cells #[.slice none 0 0] 34) (.cells #[.slice none 0 0] 34)
    have hh2 := heap_new2 wq (.cells #[.slice none 0 0] 34) (.cells #[.slice none 0 0] 34)
    have HZ0 : Hid (((wq.alloc (.cells #[.slice none 0 0] 34)).alloc (.cells #[.slice none 0 0] 34)).heap.size = wq.heap.size + 2) := by unfold Hid; simp
    have HH1 := Lib.hid hh1
    have HH2 := Lib.hid hh2
    clear hh1 hh2
    generalize hw0 : (wq.alloc (.cells #[.slice none 0 0] 34)).alloc (.cells #[.slice none 0 0] 34) = w0 at *
    clear hw0
    obtain ⟨L, hL⟩ : ∃ L, L = oregs x := ⟨_, rfl⟩
    have HLX : Hid (oregs x = L) := hL.symm
    have HLY : Hid (oregs y = L) := HRX.out.trans hL.symm
    have HL3 : Hid (L.length ≤ 3) := by unfold Hid; rw [hL]; exact oregs_len x
    clear hL
    go_wp2_with fail
    obtain ⟨i0, hi0, hz00, hz01, hz02⟩ := info_int8'
    have HI0 := Lib.hid (And.intro hi0 (And.intro hz00 (And.intro hz01 hz02)))
    clear hi0 hz00 hz01 hz02
    have hz0 : w0.heap.size = wq.heap.size + 2 := HZ0.out
    have hx0 : (w0.alloc x.obj).heap[w0.heap.size]? = some x.obj := heap_alloc_new w0 x.obj
    have hb0 : Below w0.heap.size w0 (w0.alloc x.obj) := (Below.refl _ _).alloc (Nat.le_refl _) _
    have hzx : (w0.alloc x.obj).heap.size = wq.heap.size + 3 := by simp; omega
    have HA0 : Hid (Boxed (w0.alloc x.obj) wq.heap.size 34 (.slice none 0 0)) := (hb0.block _ (by omega)).trans HH1.out
    refine (wpIn_wide (n := 3)).1 (wpIn_rangeFunc_ownF rfl (by omega) (gf := 90) (lb := #[.pointer (some ⟨w0.heap.size, 0, none⟩)]) rfl trivial (enters_of Tryd.func90 (by kernel_rfl) rfl)
      (regs_stops 2 (by omega) w0.heap.size x _ hx0) rkp_t (rkp_b (block_lt hx0)) (Below.refl _ _) (fun _ => rfl)
      (fun pre W => (∃ v, Boxed W wq.heap.size 34 v ∧ W.ownsRow (w0.alloc x.obj).heap.size 3 1 v pre.length (pre.map (Value.int .i64)) ∧ True) ∧ Mid (w0.alloc x.obj).heap.size wq.heap.size (w0.alloc x.obj) W)
      (fun c pre W => False)
      (OwnFrom.and (Own.from (holdsRow_own (w0.alloc x.obj).heap.size wq.heap.size 34 3 1 (fun pre : List Int => pre.length) (fun pre => pre.map (Value.int .i64)) (fun _ _ => True)) _) (ownFrom_mid (Nat.le_refl _) (by omega) (Nat.le_refl _)))
      (fun c => fun s A B row hs hg hr => hs)
      ⟨⟨_, HA0.out, World.ownsRow_nil _ _ _ _, trivial⟩, Mid.refl _ _ _⟩
      ?acts1 ?assign1 ?body1 ?done1 ?stop1)
    all_goals clear hz0 hzx hx0 hb0
    case assign1 =>
      intro l r W K hK
      gi_wp2
      exact hK
    case body1 =>
      rintro l pre r W ⟨⟨v, hv, hrow, _⟩, hM⟩ hlt
      have hlt3 : pre.length < 3 := by have := HL3.out; rw [HLX.out] at hlt; omega
      have hvc := hv.cell
      have hvf := hv.frozen
      have hsz := hM.2.size
      have HM := Lib.hid hM
      have HV := Lib.hid hv
      have HRW := Lib.hid hrow
      have hAlt : wq.heap.size < (w0.alloc x.obj).heap.size := by have := HZ0.out; simp; omega
      have hAr : wq.heap.size ≠ w0.heap.size := by have := HZ0.out; omega
      have HLT := Lib.hid hAlt
      have HAR := Lib.hid hAr
      clear hM hv hrow hlt hAlt hAr
      obtain ⟨hi, hz0, hz1, hz2⟩ := HI0.out
      gi_wp2_with (gi_at_builtin; refine wpListIn_append_own _ rfl _ _ 34 rfl (w0.alloc x.obj).heap.size 3 i0 (.int .i64 0) 1 8 Tryd.underlying34 hi hz0 hz1 hz2 rfl (by decide) _ _ _ rfl (HRW.out.alloc _) ⟨W.heap.size, 0, none⟩ 1 1 [.int .i64 r] rfl rfl (cell_one_new _ _ _) (by simp [Value.oneCell']) (by unfold maxLen; omega) (by omega) (by simp; simp at hsz; omega) ?_; intro v' w1 hown' hgrow _; obtain ⟨g', cap', rfl⟩ := ownsRow_succ hown'; obtain ⟨hv1, hv2, hr2, hk2, hb2⟩ := boxed_app HV.out (by decide) HRW.out hsz HLT.out hown' hgrow; have hc1 := hv1.cell; have hf1 := hv1.frozen; have HQ := Lib.hid (And.intro hv2 (And.intro hr2 (And.intro hk2 hb2))); clear hv1 hv2 hr2 hk2 hb2 hown' hgrow)
      obtain ⟨q1, q2, q3, q4⟩ := HQ.out
      refine ⟨q3, ⟨q4.1 _ (by simp) (Ne.symm HAR.out), q3.walks⟩, ⟨_, q1, ?_, trivial⟩, HM.out.trans q4⟩
      rw [List.length_append, List.map_append]
      exact q2
    case done1 =>
      rintro D ys W hD rfl ⟨⟨v, hv, hrow, _⟩, hM⟩ hK
      rw [HLX.out] at hrow
      obtain ⟨V1, c1, g1, hv1, hV1, hg1⟩ := own_cells hrow
      subst hv1
      have hz0 := HZ0.out
      have hbA : Below wq.heap.size wq W := (HWK.out.trans (((Below.refl _ w0).alloc (Nat.le_refl _) x.obj).mono (by omega))).trans hM.2
      have HYC := HYW.out
      have hyz := HBW.out.1
      have y0 := (hbA.cell (p := ⟨w1.heap.size, 0, none⟩) hyz).trans HYC.1
      have y1 := (hbA.cell (p := ⟨w1.heap.size, 1, none⟩) hyz).trans HYC.2.1
      have y2 := (hbA.cell (p := ⟨w1.heap.size, 2, none⟩) hyz).trans HYC.2.2.1
      have y3 := (hbA.cell (p := ⟨w1.heap.size, 3, none⟩) hyz).trans HYC.2.2.2
      have hn0 : (w0.alloc x.obj).heap.size = wq.heap.size + 3 := by simp; omega
      have HBB : Hid (W.heap[wq.heap.size + 1]? = some (.cells #[.slice none 0 0] 34)) := (hM.1 _ (by omega) (by omega)).trans (((Below.refl _ w0).alloc (Nat.le_refl _) x.obj).block _ (by omega) |>.trans HH2.out)
      have HVA : Hid (Boxed W wq.heap.size 34 (.slice V1 L.length c1)) := hv
      have HWB : Hid (Below w.heap.size w W) := HBW.out.2.trans (hbA.mono (by have := HBW.out.2.size; omega))
      have hws : wq.heap.size + 3 ≤ W.heap.size := by have := hM.2.size; omega
      have HWS := Lib.hid hws
      have HG1 := Lib.hid hg1
      have HV1 := Lib.hid hV1
      have HK := Lib.hid hK
      have HGL : Hid (∀ i, i < L.length → g1 < W.heap.size ∧ wq.heap.size + 3 ≤ g1) := by
        intro i hi
        refine ⟨World.block_lt_of_cell? _ _ (hg1 i hi), ?_⟩
        obtain rfl := hV1 (by omega)
        have := (hrow.lt g1 (by simp [Value.ownBlock])).1
        omega
      have HDW := Lib.hid (And.intro hD (block_lt hK))
      clear hD hK hv hrow hV1 hg1 hbA HYC hyz hn0 hz0 hM hws
      go_wp2_with fail
      refine (regsMk_any _ y).mono ?_
      rintro e w4 ⟨rfl, hw4⟩
      obtain rfl := hw4.symm
      clear hw4 y0 y1 y2 y3
      go_wp2_with fail
      have hx0 : (W.alloc y.obj).heap[W.heap.size]? = some y.obj := heap_alloc_new W y.obj
      have hb0 : Below W.heap.size W (W.alloc y.obj) := (Below.refl _ _).alloc (Nat.le_refl _) _
      have hws := HWS.out
      have hn1 : (W.alloc y.obj).heap.size = W.heap.size + 1 := by simp
      have HA1 : Hid (Boxed (W.alloc y.obj) (wq.heap.size + 1) 34 (.slice none 0 0)) := (hb0.block _ (by omega)).trans HBB.out
      refine (wpIn_wide (n := 3)).1 (wpIn_rangeFunc_ownF rfl (by omega) (gf := 90) (lb := #[.pointer (some ⟨W.heap.size, 0, none⟩)]) rfl trivial (enters_of Tryd.func90 (by kernel_rfl) rfl)
        (regs_stops 2 (by omega) W.heap.size y _ hx0) rkp_t (rkp_b (block_lt hx0)) (Below.refl _ _) (fun _ => rfl)
        (fun pre W' => (∃ v, Boxed W' (wq.heap.size + 1) 34 v ∧ W'.ownsRow (W.alloc y.obj).heap.size 3 1 v pre.length (pre.map (Value.int .i64)) ∧ True) ∧ Mid (W.alloc y.obj).heap.size (wq.heap.size + 1) (W.alloc y.obj) W')
        (fun c pre W => False)
        (OwnFrom.and (Own.from (holdsRow_own (W.alloc y.obj).heap.size (wq.heap.size + 1) 34 3 1 (fun pre : List Int => pre.length) (fun pre => pre.map (Value.int .i64)) (fun _ _ => True)) _) (ownFrom_mid (Nat.le_refl _) (by omega) (Nat.le_refl _)))
        (fun c => fun s A B row hs hg hr => hs)
        ⟨⟨_, HA1.out, World.ownsRow_nil _ _ _ _, trivial⟩, Mid.refl _ _ _⟩
        ?bcts1 ?bssign1 ?bbody1 ?bdone1 ?bstop1)
      all_goals clear hx0 hb0 hws hn1
      case bssign1 =>
        intro l r W' K hK
        gi_wp2
        exact hK
      case bbody1 =>
        rintro l pre r V ⟨⟨v, hv, hrow, _⟩, hM⟩ hlt
        have hlt3 : pre.length < 3 := by have := HL3.out; rw [HLY.out] at hlt; omega
        have hvc := hv.cell
        have hvf := hv.frozen
        have hsz := hM.2.size
        have HM := Lib.hid hM
        have HV := Lib.hid hv
        have HRW := Lib.hid hrow
        have hAlt : wq.heap.size + 1 < (W.alloc y.obj).heap.size := by have := HWS.out; simp; omega
        have hAr : wq.heap.size + 1 ≠ W.heap.size := by have := HWS.out; omega
        have HLT := Lib.hid hAlt
        have HAR := Lib.hid hAr
        clear hM hv hrow hlt hAlt hAr
        obtain ⟨hi, hz0, hz1, hz2⟩ := HI0.out
        gi_wp2_with (gi_at_builtin; refine wpListIn_append_own _ rfl _ _ 34 rfl (W.alloc y.obj).heap.size 3 i0 (.int .i64 0) 1 8 Tryd.underlying34 hi hz0 hz1 hz2 rfl (by decide) _ _ _ rfl (HRW.out.alloc _) ⟨V.heap.size, 0, none⟩ 1 1 [.int .i64 r] rfl rfl (cell_one_new _ _ _) (by simp [Value.oneCell']) (by unfold maxLen; omega) (by omega) (by simp; simp at hsz; omega) ?_; intro v' w1 hown' hgrow _; obtain ⟨g', cap', rfl⟩ := ownsRow_succ hown'; obtain ⟨hv1, hv2, hr2, hk2, hb2⟩ := boxed_app HV.out (by decide) HRW.out hsz HLT.out hown' hgrow; have hc1 := hv1.cell; have hf1 := hv1.frozen; have HQ := Lib.hid (And.intro hv2 (And.intro hr2 (And.intro hk2 hb2))); clear hv1 hv2 hr2 hk2 hb2 hown' hgrow)
        obtain ⟨q1, q2, q3, q4⟩ := HQ.out
        refine ⟨q3, ⟨q4.1 _ (by simp) (Ne.symm HAR.out), q3.walks⟩, ⟨_, q1, ?_, trivial⟩, HM.out.trans q4⟩
        rw [List.length_append, List.map_append]
        exact q2
      case bstop1 =>
        rintro D c' pre W hD hpre hf hK
        exact hf.elim
      case bdone1 =>
        rintro E ys V hE rfl ⟨⟨v, hv, hrow, _⟩, hM⟩ hKE
        rw [HLY.out] at hrow
        obtain ⟨V2, c2, g2, hv2, hV2, hg2⟩ := own_cells hrow
        subst hv2
        have hws := HWS.out
        have hn1 : (W.alloc y.obj).heap.size = W.heap.size + 1 := by simp
        have hb0 : Below W.heap.size W (W.alloc y.obj) := (Below.refl _ _).alloc (Nat.le_refl _) _
        have hca : V.cell? ⟨wq.heap.size, 0, none⟩ = some (.slice V1 L.length c1) := (hM.2.cell (by show wq.heap.size < _; omega)).trans ((hb0.cell (by show wq.heap.size < _; omega)).trans HVA.out.cell)
        have hcb : V.cell? ⟨wq.heap.size + 1, 0, none⟩ = some (.slice V2 L.length c2) := hv.cell
        have HG2 := Lib.hid hg2
        have HV2 := Lib.hid hV2
        have HGA : Hid (∀ i, i < L.length → V.cell? ⟨g1, i, none⟩ = some (.int .i64 (wd L i))) := by
          intro i hi
          obtain ⟨l1, l2⟩ := HGL.out i hi
          rw [World.cell?_of_block (w := W) (a := ⟨g1, i, none⟩) ((hM.1 g1 (by omega) (by omega)).trans (hb0.block g1 l1))]
          exact HG1.out i hi
        have h9 : (w0.alloc x.obj).heap.size = w0.heap.size + 1 := by simp
        have hDne : D ≠ wq.heap.size + 1 := by have h7 := HDW.out.1; have h8 := HZ0.out; omega
        clear h9
        have HKD : Hid (V.heap[D]? = some (.deferred (some []))) := (hM.1 D (by have := HDW.out.2; omega) hDne).trans ((hb0.block D HDW.out.2).trans HK.out)
        have HKE := Lib.hid hKE
        have HVB : Hid (Below w.heap.size w V) := (HWB.out.trans (hb0.mono (by have := HWB.out.size; omega))).trans (hM.2.mono (by have := HBW.out.2.size; omega))
        have hl3 := HL3.out
        have d3 : decide ((3 : Int) < (L.length : Int)) = false := by simp; omega
        have d3' : decide (3 < L.length) = false := by simp; omega
        have dne : ((L.length : Int) != (L.length : Int)) = false := by simp
        clear hv hrow hV2 hg2 hws hn1 hb0 hM hKE hDne
        go_wp2_with fail
        go_loopw [12] (fun i wr => ∃ k : Nat, k ≤ L.length ∧ i = .int .i64 k ∧ Hid (∃ m : Nat, wr = V.drewN m)) (fun i _ => L.length - (intOf i).toNat)
        case atStart => exact ⟨0, Nat.zero_le _, rfl, 0, rfl⟩
        case round =>
          obtain ⟨k, hk, rfl, HWR⟩ := hrel
          obtain ⟨m, rfl⟩ := HWR.out
          by_cases hlt : k < L.length
          · obtain rfl := HV1.out (by omega)
            obtain rfl := HV2.out (by omega)
            have ca := HGA.out k hlt
            have cb := HG2.out k hlt
            have i1 : ((k : Nat) : Int) < ((L.length : Nat) : Int) := by omega
            go_wp2_with fail
            go_quiet (fail)
            go_wp2_with fail
            go_roundw
            case rel => exact ⟨k + 1, by omega, by go_num, _, rfl⟩
            case measure => simp [intOf]; omega
          · go_wp2_with fail
            have hEW : W.heap.size ≤ E := by have h9 : (W.alloc y.obj).heap.size = W.heap.size + 1 := (by simp); omega
            have hE1 := belowK_b (w := W) (Nat.le_refl _) (V.drewN m) E _ (.deferred none) hEW HKE.out rfl rfl
            have hD1 : ((V.drewN m).putObj E (.deferred none)).heap[D]? = some (.deferred (some [])) := (hE1.block D HDW.out.2).trans HKD.out
            have hD2 := belowK_b (w := w) (Nat.le_refl _) _ D _ (.deferred none) (by have h7 := HDW.out.1; have h8 := HZ0.out; have h6 := HBW.out.2.size; simp at h7; omega) hD1 rfl rfl
            refine ⟨by simp, .inl ⟨_, _, rfl, run_takeDeferred (w := V.drewN m) HKE.out, ?_⟩⟩
            refine ⟨by simp, .inl ⟨_, _, rfl, run_takeDeferred hD1, ?_⟩⟩
            refine ⟨.bool true, ?_, rfl, ((below_drewN HVB.out m).trans (hE1.mono HWB.out.size)).trans hD2⟩
            simp [results, Tryd.f9, go_sem]
    case stop1 =>
      rintro D c' pre W hD hpre hf hK
      exact hf.elim
end Go.Proofs.YtdohmjdcgpkclaaDoor
