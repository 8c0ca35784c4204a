/- The walk of the law CensusRows. -/
import Derived.Deep.RegionHeld3
import Derived.RangeFuncBox
import Derived.Test.YtcheafeaioflmaaDoorCenRows1
import Derived.Test.YtcheafeaioflmaaDoorOpCheck
import Derived.Test.YtcheafeaioflmaaDoorStrEq
namespace Go.Proofs.YtcheafeaioflmaaDoor
open Go Go.RowKit Go.Shelf
set_option linter.unusedSimpArgs false
set_option linter.unusedVariables false
attribute [local go_sem] Oper.semAt_some

set_option maxHeartbeats 8000000 in
set_option maxRecDepth 100000 in
theorem crows_walk (w : World) (f : Nat → Int) (hf : ∀ i, -9223372036854775808 ≤ f i ∧ f i ≤ 9223372036854775807) (ht : Tens w) :
    Calls Tryd.prog 11 #[.agg (cl f).toArray] w fun e w' => e = .returned (.bool true) ∧ Below w.heap.size w w' := by
  have HT : Hid (Tens w) := ht
  have HF := Lib.hid hf
  have hlen := cl_len f
  have HB0 : Hid (Below w.heap.size w ((w.alloc (.cells (cl f).toArray 67)).alloc (.cells #[.bool false] 4))) := ((Below.refl _ w).alloc (Nat.le_refl _) _).alloc (by simp) _
  have HC0 : Hid (((w.alloc (.cells (cl f).toArray 67)).alloc (.cells #[.bool false] 4)).heap[w.heap.size]? = some (.cells (cl f).toArray 67)) := heap_new1 w _ _
  have HR0 : Hid (((w.alloc (.cells (cl f).toArray 67)).alloc (.cells #[.bool false] 4)).heap[w.heap.size + 1]? = some (.cells #[.bool false] 4)) := heap_new2 w _ _
  clear ht hf
  refine callsIn_wide.1 (callsIn_of_wp_marks (n := 4) (F := Fence.wide) Tryd.func11 rfl trivial (wpIn_wide.2 ?_) rfl)
  simp only [Tryd.ntmps11, List.size_toArray, List.length_cons, List.length_nil, Nat.reduceAdd, Nat.reduceSub, Array.replicate_succ, Array.replicate_zero, List.push_toArray, List.append_toArray, List.nil_append, List.cons_append]
  go_wp2_with fail
  refine (cawake_any _).mono ?_
  rintro e w1 ⟨rfl, hb⟩
  have HB1 : Hid (Below w.heap.size w w1) := HB0.out.trans (hb.mono (by simp; omega))
  have HC1 : Hid (w1.heap[w.heap.size]? = some (.cells (cl f).toArray 67)) := (hb.block _ (by simp; omega)).trans HC0.out
  have HR1 : Hid (w1.heap[w.heap.size + 1]? = some (.cells #[.bool false] 4)) := (hb.block _ (by simp)).trans HR0.out
  clear hb HB0 HC0 HR0
  go_wp2_with (first
    | (guard_target =~ wpList _ _ _ (Oper.mk _ (Op.load 67 _) _ _ _ _ :: _) _ _; refine wpList_load_mid rfl 67 _ rfl w.heap.size 0 rfl (cl f) _ (cat_block' HC1.out).at_ Tryd.underlying67 rfl (census_size _) ?_))
  refine (far_any _ f).mono ?_
  rintro e w2 h
  obtain ⟨⟨b, rfl, hbd⟩, hb⟩ := h
  have HB2 : Hid (Below w.heap.size w w2) := HB1.out.trans (hb.mono HB1.out.size)
  have HC2 : Hid (w2.heap[w.heap.size]? = some (.cells (cl f).toArray 67)) := (hb.block _ (block_lt HC1.out)).trans HC1.out
  have HR2 : Hid (w2.heap[w.heap.size + 1]? = some (.cells #[.bool false] 4)) := (hb.block _ (block_lt HR1.out)).trans HR1.out
  have HBD := Lib.hid hbd
  clear hb hbd HB1 HC1 HR1
  cases b
  case true =>
    have hcr := cell_of_block HR2.out 0
    have hfr := frozen_of_block HR2.out 0
    go_wp2_with fail
    have hcF : (w2.setCell ⟨w.heap.size + 1, 0, none⟩ (.bool true)).cell? ⟨w.heap.size + 1, 0, none⟩ = some (.bool true) := World.cell?_setCell_same' _ _ _ (by rw [hcr]; rfl)
    refine ⟨.bool true, ?_, rfl, HB2.out.setCell (p := ⟨w.heap.size + 1, 0, none⟩) (by simp) _⟩
    simp [results, Tryd.f11, go_sem, hcF]
  case false =>
    go_wp2_with (first
      | (guard_target =~ wpList _ _ _ (Oper.mk _ (Op.load 67 _) _ _ _ _ :: _) _ _; refine wpList_load_mid rfl 67 _ rfl w.heap.size 0 rfl (cl f) _ (cat_block' HC2.out).at_ Tryd.underlying67 rfl (census_size _) ?_))
    refine (rrows_any _ f HF.out).mono ?_
    rintro e w3 h
    obtain ⟨⟨A, c, rfl, hs⟩, hb⟩ := h
    have HB3 : Hid (Below w.heap.size w w3) := HB2.out.trans (hb.mono HB2.out.size)
    have HC3 : Hid (w3.heap[w.heap.size]? = some (.cells (cl f).toArray 67)) := (hb.block _ (block_lt HC2.out)).trans HC2.out
    have HR3 : Hid (w3.heap[w.heap.size + 1]? = some (.cells #[.bool false] 4)) := (hb.block _ (block_lt HR2.out)).trans HR2.out
    have HS := Lib.hid hs
    have HL22 : Hid ((cenRows f).length = 22) := by unfold Hid; rw [← cenC_5, cenC_len]
    clear hb hs HB2 HC2 HR2
    rw [HL22.out]
    have HW4 : Hid (Below w3.heap.size w3 ((w3.alloc (.cells #[.slice A 22 c] 28)).alloc (.cells #[.int .i64 0] 3))) := ((Below.refl _ w3).alloc (Nat.le_refl _) _).alloc (by simp) _
    have HC4 : Hid (((w3.alloc (.cells #[.slice A 22 c] 28)).alloc (.cells #[.int .i64 0] 3)).heap[w.heap.size]? = some (.cells (cl f).toArray 67)) := (HW4.out.block _ (block_lt HC3.out)).trans HC3.out
    have HH1 := Lib.hid (heap_new1 w3 (.cells #[.slice A 22 c] 28) (.cells #[.int .i64 0] 3))
    have HH2 := Lib.hid (heap_new2 w3 (.cells #[.slice A 22 c] 28) (.cells #[.int .i64 0] 3))
    have HZ0 : Hid (((w3.alloc (.cells #[.slice A 22 c] 28)).alloc (.cells #[.int .i64 0] 3)).heap.size = w3.heap.size + 2) := by unfold Hid; simp
    have hz3 : w.heap.size + 1 < w3.heap.size := block_lt HR3.out
    go_wp2_with (first
      | (guard_target =~ wpList _ _ _ (Oper.mk _ (Op.load 67 _) _ _ _ _ :: _) _ _; refine wpList_load_mid rfl 67 _ rfl w.heap.size 0 rfl (cl f) _ (cat_block' HC4.out).at_ Tryd.underlying67 rfl (census_size _) ?_))
    refine (rowsMk_any _ f).mono ?_
    rintro e w5 ⟨rfl, hw5⟩
    obtain rfl := hw5.symm
    clear hw5
    obtain ⟨w0, hw0⟩ : ∃ x, x = (w3.alloc (.cells #[.slice A 22 c] 28)).alloc (.cells #[.int .i64 0] 3) := ⟨_, rfl⟩
    rw [← hw0] at HW4 HC4 HH1 HH2 HZ0 ⊢
    clear hw0
    go_wp2_with fail
    have hz0 : w0.heap.size = w3.heap.size + 2 := HZ0.out
    have hx0 : (w0.alloc (.cells (cl f).toArray 67)).heap[w0.heap.size]? = some (.cells (cl f).toArray 67) := heap_alloc_new w0 _
    have hb0 : Below w0.heap.size w0 (w0.alloc (.cells (cl f).toArray 67)) := (Below.refl _ _).alloc (Nat.le_refl _) _
    have hzx : (w0.alloc (.cells (cl f).toArray 67)).heap.size = w3.heap.size + 3 := by simp; omega
    have HN0 : Hid ((w0.alloc (.cells (cl f).toArray 67)).heap[w3.heap.size + 1]? = some (.cells #[.int .i64 0] 3)) := (hb0.block _ (by omega)).trans HH2.out
    have HB4 : Hid (Below w.heap.size w w0) := HB3.out.trans (HW4.out.mono (by omega))
    have HT4 : Hid (∀ W', Below (w3.heap.size + 1) (w0.alloc (.cells (cl f).toArray 67)) W' → Tens W') := fun W' h => HT.out.below (Nat.le_refl _) (HB4.out.trans ((hb0.mono (by omega)).trans (h.mono (by omega))))
    refine (wpIn_wide (n := 4)).1 (wpIn_rangeFunc_ownF rfl (by omega) (gf := 90) (lb := #[.pointer (some ⟨w0.heap.size, 0, none⟩)]) rfl trivial (enters_of Tryd.func90 (by kernel_rfl) rfl)
      (rows_stops 3 (by omega) w0.heap.size (w3.heap.size + 1) f HF.out (w0.alloc (.cells (cl f).toArray 67)) (by omega) HT4.out hx0) kx_t (kx_b (by omega)) (Below.refl _ _) (fun _ => rfl)
      (fun pre W => (pre <+: cenRows f ∧ W.cell? ⟨w3.heap.size + 1, 0, none⟩ = some (.int .i64 (pre.length : Int)) ∧ W.frozen? ⟨w3.heap.size + 1, 0, none⟩ = false) ∧ Below (w3.heap.size + 1) w0 W)
      (fun c pre W => (c = .ret ∧ ¬ pre <+: cenRows f) ∧ Below w.heap.size w W)
      (OwnFrom.and (Own.from (fun s A B row hs hg hr => ⟨hs.1, cell_kept hs.2.1 hg hr, (frozen_kept hs.2.1 hg hr).trans hs.2.2⟩) _) (ownFrom_below (by omega) (by omega)))
      (fun c => OwnFrom.and (Own.from (fun s A B row hs hg hr => hs) _) (ownFrom_below (by omega) (by omega)))
      ⟨⟨List.nil_prefix, cell_of_block HN0.out 0, frozen_of_block HN0.out 0⟩, hb0.mono (by omega)⟩
      (fun y => { tmps := #[.agg (cl f).toArray, .pointer (some ⟨w.heap.size, 0, none⟩), .pointer (some ⟨w.heap.size + 1, 0, none⟩), .pointer (some ⟨w3.heap.size, 0, none⟩), .pointer (some ⟨w3.heap.size + 1, 0, none⟩), .string y, undef, undef, undef, .bool true, .bool false, .agg (cl f).toArray, .bool false, .agg (cl f).toArray, .slice A 22 c, .agg (cl f).toArray, .func (.func 90) #[] #[.pointer (some ⟨w0.heap.size, 0, none⟩)], .string y, undef, undef, undef, undef, undef, undef, undef, undef, undef, undef, undef, undef, undef, undef, undef, undef, undef, undef, undef, undef, undef, undef, undef, undef, undef, undef, undef, undef, undef, undef, undef, undef, undef, undef, undef, undef, undef, undef, undef, undef, undef, undef, undef, undef], defers := [] }) ?assign ?body ?done ?stop)
    all_goals clear hz0 hzx hx0 hb0
    case assign =>
      intro l y W K hK
      clear HZ0
      gi_wp2
      exact hK
    case body =>
      rintro l pre y W ⟨⟨hp, hcn, hfn⟩, hB⟩ hlt
      rw [← HL22.out] at hlt
      obtain ⟨ad, e9, hadB, hca⟩ := HS.out.at_ (by omega)
      subst e9
      have dge : decide ((22 : Int) ≤ (pre.length : Int)) = false := by have := HL22.out; simp; omega
      have i1 : (0 : Int) ≤ (pre.length : Int) := by omega
      have i2 : (pre.length : Int) < 22 := by have := HL22.out; omega
      have hz0 := HZ0.out
      have hcw : W.cell? ⟨w3.heap.size, 0, none⟩ = some (.slice (some ad) 22 c) := cell_of_block ((hB.block _ (by omega)).trans HH1.out) 0
      have hcg : W.cell? (ad.add pre.length) = some (.string ((cenRows f)[pre.length]'hlt)) := (hB.cell (by rw [block_of_add]; omega)).trans ((HW4.out.cell (by rw [block_of_add]; exact hadB)).trans (hca _ _ (List.getElem?_eq_getElem hlt)))
      have sp : IntKind.i64.wrap ((pre.length : Int) + 1) = (pre.length : Int) + 1 := IntWalk.i64_in _ (by omega)
      have HRW : W.heap[w.heap.size + 1]? = some (.cells #[.bool false] 4) := (hB.block _ (by omega)).trans ((HW4.out.block _ (by omega)).trans HR3.out)
      have hcr := cell_of_block HRW 0
      have hfr := frozen_of_block HRW 0
      have HBB := Lib.hid hB
      clear HRW hB hca
      by_cases hyy : y = (cenRows f)[pre.length]'hlt
      · have tne : (y.toList == ((cenRows f)[pre.length]'hlt).toList) = true := by rw [← hyy]; simp
        have HPX : Hid (pre ++ [y] <+: cenRows f) := by
          obtain ⟨r, hr⟩ := hp
          cases r with
          | nil => exfalso; rw [← hr] at hlt; simp at hlt
          | cons z r' =>
            have e : y = z := by
              rw [hyy]
              simp only [← hr]
              simp
            refine ⟨r', ?_⟩
            rw [e, ← hr]
            simp
        clear hyy hz0
        generalize (cenRows f)[pre.length]'hlt = ye at *
        gi_wp2
        refine ⟨KeepsOthers.setCell _ _ _, kx_set W _, ⟨HPX.out, ?_, ?_⟩, HBB.out.setCell (p := ⟨w3.heap.size + 1, 0, none⟩) (Nat.le_refl _) _⟩
        · rw [List.length_append, List.length_singleton, World.cell?_setCell_same' _ _ _ (by rw [hcn]; rfl)]
          simp
        · rw [World.frozen?_setCell]; exact hfn
      · have tne : (y.toList == ((cenRows f)[pre.length]'hlt).toList) = false := strF hyy
        have HNX : Hid (¬ (pre ++ [y] <+: cenRows f)) := by
          rintro ⟨r, hr⟩
          refine hyy ?_
          simp only [← hr]
          simp
        have HWB : Hid (Below w.heap.size w W) := HB4.out.trans (HBB.out.mono (by omega))
        clear hyy hz0
        generalize (cenRows f)[pre.length]'hlt = ye at *
        gi_wp2
        exact ⟨KeepsOthers.setCell _ _ _, ⟨rfl, HNX.out⟩, HWB.out.setCell (p := ⟨w.heap.size + 1, 0, none⟩) (by simp) _⟩
    case done =>
      rintro D ys W hD rfl ⟨⟨hp, hcn, hfn⟩, hB⟩ hK
      rw [HL22.out] at hcn
      have hz0 := HZ0.out
      have HC5 : Hid (W.heap[w.heap.size]? = some (.cells (cl f).toArray 67)) := (hB.block _ (by omega)).trans HC4.out
      have HR5 : Hid (W.heap[w.heap.size + 1]? = some (.cells #[.bool false] 4)) := (hB.block _ (by omega)).trans ((HW4.out.block _ (by omega)).trans HR3.out)
      have hcw : W.cell? ⟨w3.heap.size, 0, none⟩ = some (.slice A 22 c) := cell_of_block ((hB.block _ (by omega)).trans HH1.out) 0
      have HWB : Hid (Below w.heap.size w W) := HB4.out.trans (hB.mono (by omega))
      have HKD := Lib.hid hK
      have HFB := Lib.hid (HBD.out trivial)
      have HDZ : Hid (w.heap.size + 1 < D) := by unfold Hid; simp at hD; omega
      clear hB hK hz0 hD hp hfn
      have hcn' : W.cell? ⟨w3.heap.size + 1, 0, none⟩ = some (.int .i64 22) := hcn
      clear hcn
      have hcx : Hid (∀ i, i < 24 → W.cell? ⟨w.heap.size, i, none⟩ = some (.int .i64 (f i))) := fun i hi => (cat_block' HC5.out).cell i hi
      go_wp2_with fail
      go_loopw [6, 7] (fun n ix wr => ∃ k : Nat, k ≤ 12 ∧ ix = .int .i64 k ∧ n = .int .i64 (psum f k) ∧ wr = W) (fun _ ix _ => 12 - (intOf ix).toNat)
      case atStart => exact ⟨0, by omega, rfl, rfl, rfl⟩
      case round =>
        obtain ⟨k, hk, rfl, rfl, hwr⟩ := hrel
        obtain rfl := hwr.symm
        clear hwr
        have hb := psum_bd f 12 (fun i hi => HFB.out i (by omega)) k hk
        by_cases hlt : k < 12
        · have h1 := HFB.out k (by omega)
          have hck := hcx.out k (by omega)
          have s0 : IntKind.i64.wrap (psum f k + f k) = psum f k + f k := IntWalk.i64_in _ (by omega)
          have i1 : (0 : Int) ≤ (k : Int) := by omega
          have i2 : (k : Int) < 12 := by omega
          have sk2 : IntKind.i64.wrap ((k : Int) + 1) = (k : Int) + 1 := IntWalk.i64_in _ (by omega)
          clear hb h1
          go_wp2_with fail
          go_roundw
          case rel => exact ⟨k + 1, by omega, by go_num, rfl, by first | exact trivial | rfl⟩
          case measure => (simp [intOf] <;> omega)
        have dl2 : decide ((k : Int) < 12) = false := by simp; omega
        have hk12 : k = 12 := by omega
        have HP : Hid (psum f k = psum f 12) := by rw [hk12]; rfl
        rw [HP.out]
        clear hb hk12 hk hlt
        go_wp2_with fail
        clear dl2
        go_loopw [6, 8] (fun n ix wr => ∃ k : Nat, k ≤ 7 ∧ ix = .int .i64 k ∧ n = .int .i64 (psum f 12 - psum (fun i => f (12 + i)) k) ∧ wr = W) (fun _ ix _ => 7 - (intOf ix).toNat)
        case atStart => exact ⟨0, by omega, rfl, by simp [psum], rfl⟩
        case round =>
          obtain ⟨k, hk, rfl, rfl, hwr⟩ := hrel
          obtain rfl := hwr.symm
          clear hwr
          have hb := psum_bd f 12 (fun i hi => HFB.out i (by omega)) 12 (Nat.le_refl _)
          have hb2 := psum_bd (fun i => f (12 + i)) 7 (fun i hi => HFB.out (12 + i) (by omega)) k hk
          by_cases hlt : k < 7
          · have h1 := HFB.out (12 + k) (by omega)
            have hck := hcx.out (12 + k) (by omega)
            have s0 : IntKind.i64.wrap (psum f 12 - psum (fun i => f (12 + i)) k - f (12 + k)) = psum f 12 - psum (fun i => f (12 + i)) k - f (12 + k) := IntWalk.i64_in _ (by omega)
            have i1 : (0 : Int) ≤ (k : Int) := by omega
            have i2 : (k : Int) < 7 := by omega
            have sk2 : IntKind.i64.wrap ((k : Int) + 1) = (k : Int) + 1 := IntWalk.i64_in _ (by omega)
            clear hb hb2 h1
            go_wp2_with fail
            go_roundw
            case rel => exact ⟨k + 1, by omega, by go_num, by simp only [psum]; congr 1; omega, by first | exact trivial | rfl⟩
            case measure => (simp [intOf] <;> omega)
          have dl2 : decide ((k : Int) < 7) = false := by simp; omega
          have hk7 : k = 7 := by omega
          have HP : Hid (psum f 12 - psum (fun i => f (12 + i)) k = copen f) := by rw [hk7]; rfl
          rw [HP.out]
          clear hb hb2 hk7 hk hlt
          have hcr := cell_of_block HR5.out 0
          have hfr := frozen_of_block HR5.out 0
          go_wp2_with (first
            | (guard_target =~ wpList _ _ _ (Oper.mk _ (Op.load 67 _) _ _ _ _ :: _) _ _; refine BigFrame.wpList_want (by first | rfl | go_simp) (fun K hK => wp_load_mid 67 _ rfl w.heap.size 0 rfl (cl f) _ (cat_block' HC5.out).at_ Tryd.underlying67 rfl (census_size _) (hK _ _ ?_))))
          refine (copen_any _ f (fun i hi => HFB.out i hi)).mono ?_
          rintro e w6 ⟨rfl, hb6⟩
          have HB6 : Hid (Below w.heap.size w w6) := HWB.out.trans (hb6.mono HWB.out.size)
          have hcr6 : w6.cell? ⟨w.heap.size + 1, 0, none⟩ = some (.bool false) := (hb6.cell (block_lt HR5.out)).trans hcr
          have hfr6 : w6.frozen? ⟨w.heap.size + 1, 0, none⟩ = false := (hb6.frozen (block_lt HR5.out)).trans hfr
          have HK6 : Hid (w6.heap[D]? = some (.deferred (some []))) := (hb6.block _ (block_lt HKD.out)).trans HKD.out
          clear hcr hfr hb6 hcw hcn'
          go_wp2_with fail
          have HKF : Hid ((w6.setCell ⟨w.heap.size + 1, 0, none⟩ (.bool true)).heap[D]? = some (.deferred (some []))) := (Below.heap_setCell _ _ _ _ (by have := HDZ.out; show D ≠ w.heap.size + 1; omega)).trans HK6.out
          have hcF0 : (w6.setCell ⟨w.heap.size + 1, 0, none⟩ (.bool true)).cell? ⟨w.heap.size + 1, 0, none⟩ = some (.bool true) := World.cell?_setCell_same' _ _ _ (by rw [hcr6]; rfl)
          refine ⟨by simp, .inl ⟨_, _, rfl, run_takeDeferred HKF.out, ?_⟩⟩
          have hcF := cell_kept hcF0 (grownBy_putObj' _ D (.deferred none)) (fun r e => by cases e; exact ⟨_, HKF.out, rfl⟩)
          refine ⟨.bool true, ?_, rfl, (HB6.out.setCell (p := ⟨w.heap.size + 1, 0, none⟩) (by simp) _).trans (belowK_b (w := w) (Nat.le_refl _) _ D _ _ (by have := HDZ.out; omega) HKF.out rfl rfl)⟩
          simp [results, Tryd.f11, go_sem, hcF]
    case stop =>
      rintro D c' pre W hD hpre ⟨⟨_, hn⟩, _⟩ hK
      exact (hn hpre).elim
end Go.Proofs.YtcheafeaioflmaaDoor
