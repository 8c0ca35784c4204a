/- The walk of the law AccessTexts. -/
import Derived.Test.YtcheafeaioflmaaDoorAccOne
import Derived.Test.YtcheafeaioflmaaDoorAccsRow
import Derived.Test.YtcheafeaioflmaaDoorRef06
import Derived.Test.YtcheafeaioflmaaDoorRefTexts
import Derived.Deep.RegionHeld3
namespace Go.Proofs.YtcheafeaioflmaaDoor
open Go Go.RowKit
set_option linter.unusedSimpArgs false
set_option linter.unusedVariables false

set_option maxHeartbeats 8000000 in
set_option maxRecDepth 100000 in
theorem atexts_walk (w : World) (c : Cfg) (A : Option Addr) (cc : Nat) (l : List Acc) (hl : Accs w w.heap.size A l) (hf : ∀ a ∈ l, a.Fits) (ht : Tens w) :
    Calls Tryd.prog 3 #[c.v, .slice A l.length cc] w fun e w' => e = .returned (.bool true) ∧ Below w.heap.size w w' := by
  have HT : Hid (Tens w) := ht
  have HL := Lib.hid hl
  have HF := Lib.hid hf
  have HLEN : Hid (l.length ≤ 9223372036854775807) := hl.len
  have HB0 : Hid (Below w.heap.size w (w.alloc c.obj)) := (Below.refl _ _).alloc (Nat.le_refl _) _
  have HC0 := Lib.hid (heap_alloc_new w c.obj)
  clear hl hf ht
  go_enter Tryd.func3, Tryd.ntmps3
  go_wp2_with fail
  refine (acc_awake _ (HT.out.below (Nat.le_refl _) HB0.out)).mono ?_
  rintro e w1 ⟨rfl, hb⟩
  have HB1 : Hid (Below w.heap.size w w1) := HB0.out.trans (hb.mono HB0.out.size)
  have HC1 := Lib.hid ((hb.block w.heap.size (by simp)).trans HC0.out)
  clear hb
  have hs0 := block_lt HC1.out
  obtain ⟨k0, k1, k2, k3⟩ := Cfg.cells_at HC1.out
  by_cases h40 : 40 < l.length
  · have d40 : decide ((40 : Int) < (l.length : Int)) = true := by simp; omega
    clear h40
    go_wp2_with fail
    go_ret
    exact ⟨rfl, HB1.out⟩
  have d40 : decide ((40 : Int) < (l.length : Int)) = false := by simp; omega
  have HL40 : Hid (l.length ≤ 40) := by unfold Hid; omega
  by_cases h30 : 30 < c.cells
  · have d30 : decide (30 < c.cells) = true := by simpa using h30
    clear h30
    go_wp2_with fail
    go_ret
    exact ⟨rfl, HB1.out⟩
  have d30 : decide (30 < c.cells) = false := by simpa using h30
  clear h30
  obtain ⟨W2, hW2⟩ : ∃ W2, W2 = w1.alloc c.mobj := ⟨_, rfl⟩
  have HBW : Hid (Below w.heap.size w W2) := by rw [hW2]; exact HB1.out.alloc HB1.out.size _
  have HM2 : Hid (W2.heap[w1.heap.size]? = some c.mobj) := by rw [hW2]; exact heap_alloc_new w1 _
  have HWS : Hid (w.heap.size < w1.heap.size ∧ W2.heap.size = w1.heap.size + 1) := by rw [hW2]; exact ⟨hs0, by simp⟩
  have HC2 : Hid (W2.heap[w.heap.size]? = some c.obj) := by rw [hW2]; exact (Below.heap_alloc _ _ _ hs0).trans HC1.out
  go_wp2_with fail
  rw [← hW2]
  clear hW2 k0 k1 k2 k3
  go_loopw [6, 7, 8] (fun v i _ wr => ∃ k : Nat, k ≤ l.length ∧ i = .int .i64 k ∧ Hid (wr.ownsRow W2.heap.size 9 1 v (arows c (l.take k)).length ((arows c (l.take k)).map Value.string)) ∧ Hid (wr.heap[w.heap.size]? = some c.obj) ∧ Hid (wr.heap[w1.heap.size]? = some c.mobj) ∧ Hid (Below w.heap.size w wr) ∧ Hid (Below W2.heap.size W2 wr)) (fun _ i _ _ => l.length - (intOf i).toNat)
  case atStart => exact ⟨0, Nat.zero_le _, rfl, own_nil _ _, HC2.out, HM2.out, HBW.out, Below.refl _ _⟩
  case round =>
    obtain ⟨k, hk, rfl, HO, HC, HM, HB, HBB⟩ := hrel
    have hsz := block_lt HC.out
    have hsz1 := block_lt HM.out
    by_cases hlt : k < l.length
    · obtain ⟨ad, rfl, hadB, q0, q1, q2, q3, q4⟩ := HL.out.cell HB.out hlt
      have i1 : ((k : Nat) : Int) < (l.length : Int) := by omega
      have i0 : (0 : Int) ≤ ((k : Nat) : Int) := by omega
      have HFK : Hid (l[k].Fits) := HF.out _ (List.getElem_mem hlt)
      have HY := Lib.hid (arows_yes c l k hlt)
      have HNO := Lib.hid (arows_no c l k hlt)
      have HAL := Lib.hid (arows_len c (l.take k))
      have HLT := Lib.hid hlt
      generalize l[k] = ak at q0 q1 q2 q3 q4 HFK HY HNO
      have HALL : Hid (∀ W, Below wr.heap.size wr W → W.cell? ⟨w.heap.size, 0, none⟩ = some (.int .i64 c.cells) ∧ W.cell? ⟨w.heap.size, 1, none⟩ = some (.int .i64 c.muts) ∧ W.cell? ⟨w.heap.size, 2, none⟩ = some (.int .i64 c.regs) ∧ W.cell? ⟨w.heap.size, 3, none⟩ = some (.int .i64 c.globs) ∧ W.cell? ⟨w1.heap.size, 0, none⟩ = some (.int .i64 c.cells) ∧ W.cell? ⟨w1.heap.size, 1, none⟩ = some (.int .i64 c.muts) ∧ W.cell? ⟨w1.heap.size, 2, none⟩ = some (.int .i64 c.regs) ∧ W.cell? ⟨w1.heap.size, 3, none⟩ = some (.int .i64 c.globs) ∧ W.cell? (ad.add (k * 5)) = some (.int .i64 ak.kind) ∧ W.cell? ⟨(ad.add (k * 5)).block, (ad.add (k * 5)).off + 1, none⟩ = some (.int .i64 ak.at_) ∧ W.cell? ⟨(ad.add (k * 5)).block, (ad.add (k * 5)).off + 2, none⟩ = some (.int .u64 ak.x) ∧ W.cell? ⟨(ad.add (k * 5)).block, (ad.add (k * 5)).off + 3, none⟩ = some (.int .u64 ak.y) ∧ W.cell? ⟨(ad.add (k * 5)).block, (ad.add (k * 5)).off + 4, none⟩ = some (.int .u64 ak.old) ∧ Below wr.heap.size wr W) := fun W hB => by
        obtain ⟨e0, e1, e2, e3⟩ := Cfg.cells_at ((hB.block _ (block_lt HC.out)).trans HC.out)
        obtain ⟨f0, f1, f2, f3⟩ := Cfg.mcells_at ((hB.block _ (block_lt HM.out)).trans HM.out)
        have hbl : ∀ p : Addr, p.block = (ad.add (k * 5)).block → W.cell? p = wr.cell? p := fun p hp => hB.cell (by rw [hp, block_of_add]; exact Nat.lt_of_lt_of_le hadB HB.out.size)
        exact ⟨e0, e1, e2, e3, f0, f1, f2, f3, (hbl _ rfl).trans q0, (hbl ⟨(ad.add (k * 5)).block, (ad.add (k * 5)).off + 1, none⟩ rfl).trans q1, (hbl ⟨(ad.add (k * 5)).block, (ad.add (k * 5)).off + 2, none⟩ rfl).trans q2, (hbl ⟨(ad.add (k * 5)).block, (ad.add (k * 5)).off + 3, none⟩ rfl).trans q3, (hbl ⟨(ad.add (k * 5)).block, (ad.add (k * 5)).off + 4, none⟩ rfl).trans q4, hB⟩
      have H6 := Lib.hid (fun W => r6_any W c ak HFK.out)
      have HTA := Lib.hid (fun W hW => atext_any W c ak HFK.out hW)
      have HRA := Lib.hid (fun W hW => aright_any W c ak hW)
      by_cases he : ak.text c = ⟨#[]⟩
      · have HE := Lib.hid (HNO.out he)
        have hr : ¬ ak.right c := fun h => acc_text_ne h he
        rw [decide_eq_false hr] at HRA
        have e1 := empT he
        have e2 := strT he
        have e3 := strT (rfl : ak.text c = ak.text c)
        clear he hr
        generalize ak.text c = s at *
        have HBX : Hid (Below wr.heap.size wr wr) := Below.refl _ _
        go_wp2_with fail
        go_region_held3 (fun W => W.cell? ⟨w.heap.size, 0, none⟩ = some (.int .i64 c.cells) ∧ W.cell? ⟨w.heap.size, 1, none⟩ = some (.int .i64 c.muts) ∧ W.cell? ⟨w.heap.size, 2, none⟩ = some (.int .i64 c.regs) ∧ W.cell? ⟨w.heap.size, 3, none⟩ = some (.int .i64 c.globs) ∧ W.cell? ⟨w1.heap.size, 0, none⟩ = some (.int .i64 c.cells) ∧ W.cell? ⟨w1.heap.size, 1, none⟩ = some (.int .i64 c.muts) ∧ W.cell? ⟨w1.heap.size, 2, none⟩ = some (.int .i64 c.regs) ∧ W.cell? ⟨w1.heap.size, 3, none⟩ = some (.int .i64 c.globs) ∧ W.cell? (ad.add (k * 5)) = some (.int .i64 ak.kind) ∧ W.cell? ⟨(ad.add (k * 5)).block, (ad.add (k * 5)).off + 1, none⟩ = some (.int .i64 ak.at_) ∧ W.cell? ⟨(ad.add (k * 5)).block, (ad.add (k * 5)).off + 2, none⟩ = some (.int .u64 ak.x) ∧ W.cell? ⟨(ad.add (k * 5)).block, (ad.add (k * 5)).off + 3, none⟩ = some (.int .u64 ak.y) ∧ W.cell? ⟨(ad.add (k * 5)).block, (ad.add (k * 5)).off + 4, none⟩ = some (.int .u64 ak.old) ∧ Below wr.heap.size wr W)
          (first | exact HALL.out _ HBX.out | exact HALL.out _ HBX.out.drew | (go_split_ands; exact HALL.out _ (Below.trans (by assumption) (hb2.mono (Below.size (by assumption))))) | (go_split_ands; exact HALL.out _ (by assumption)) | fail)
          (first | (go_at_call_of 16 (Value.int IntKind.i64 ak.kind); refine (H6.out _).mono ?_; rintro e wq ⟨rfl, hb2⟩) | fail)
        all_goals
         go_split_ands
         have hq : Below wr.heap.size wr wq := by assumption
         have HBq : Hid (Below w.heap.size w wq) := HB.out.trans (hq.mono HB.out.size)
         have HOq := Lib.hid (ownsRow_belowT HO.out hq)
         have HCq : Hid (wq.heap[w.heap.size]? = some c.obj) := (hq.block _ (block_lt HC.out)).trans HC.out
         have HMq : Hid (wq.heap[w1.heap.size]? = some c.mobj) := (hq.block _ (block_lt HM.out)).trans HM.out
         clear HBX
         have HBX : Hid (Below wr.heap.size wr wq) := hq
         go_wp2_with fail
         go_region_held3 (fun W => W.cell? ⟨w.heap.size, 0, none⟩ = some (.int .i64 c.cells) ∧ W.cell? ⟨w.heap.size, 1, none⟩ = some (.int .i64 c.muts) ∧ W.cell? ⟨w.heap.size, 2, none⟩ = some (.int .i64 c.regs) ∧ W.cell? ⟨w.heap.size, 3, none⟩ = some (.int .i64 c.globs) ∧ W.cell? ⟨w1.heap.size, 0, none⟩ = some (.int .i64 c.cells) ∧ W.cell? ⟨w1.heap.size, 1, none⟩ = some (.int .i64 c.muts) ∧ W.cell? ⟨w1.heap.size, 2, none⟩ = some (.int .i64 c.regs) ∧ W.cell? ⟨w1.heap.size, 3, none⟩ = some (.int .i64 c.globs) ∧ W.cell? (ad.add (k * 5)) = some (.int .i64 ak.kind) ∧ W.cell? ⟨(ad.add (k * 5)).block, (ad.add (k * 5)).off + 1, none⟩ = some (.int .i64 ak.at_) ∧ W.cell? ⟨(ad.add (k * 5)).block, (ad.add (k * 5)).off + 2, none⟩ = some (.int .u64 ak.x) ∧ W.cell? ⟨(ad.add (k * 5)).block, (ad.add (k * 5)).off + 3, none⟩ = some (.int .u64 ak.y) ∧ W.cell? ⟨(ad.add (k * 5)).block, (ad.add (k * 5)).off + 4, none⟩ = some (.int .u64 ak.old) ∧ Below wr.heap.size wr W)
           (first | exact HALL.out _ HBX.out | exact HALL.out _ HBX.out.drew | (go_split_ands; exact HALL.out _ (Below.trans (by assumption) (hb2.mono (Below.size (by assumption))))) | (go_split_ands; exact HALL.out _ (by assumption)) | fail)
           (first | (go_at_call_of 17 (Value.int IntKind.i64 ak.kind); refine (HTA.out _ (HT.out.below (Nat.le_refl _) (HB.out.trans (Below.mono (by go_split_ands; assumption) HB.out.size)))).mono ?_; rintro e wp ⟨rfl, hb2⟩) | (go_at_call_of 18 (Value.int IntKind.i64 ak.kind); refine (HRA.out _ (HT.out.below (Nat.le_refl _) (HB.out.trans (Below.mono (by go_split_ands; assumption) HB.out.size)))).mono ?_; rintro e wp ⟨rfl, hb2⟩) | fail)
         all_goals
          go_split_ands
          have hp : Below wr.heap.size wr wp := by assumption
          have HBp : Hid (Below w.heap.size w wp) := HB.out.trans (hp.mono HB.out.size)
          have HOp := Lib.hid (ownsRow_belowT HO.out hp)
          have HCp : Hid (wp.heap[w.heap.size]? = some c.obj) := (hp.block _ (block_lt HC.out)).trans HC.out
          have HMp : Hid (wp.heap[w1.heap.size]? = some c.mobj) := (hp.block _ (block_lt HM.out)).trans HM.out
          go_wp2_with fail
          go_roundw
          case rel => exact ⟨k + 1, by have := HLT.out; omega, by go_num, by rw [HE.out]; exact HOp.out, HCp.out, HMp.out, HBp.out, HBB.out.trans (hp.mono HBB.out.size)⟩
          case measure => have := HLT.out; simp [intOf]; omega
      · have HE := Lib.hid (HY.out he)
        have hr : ak.right c := Decidable.byContradiction fun h => he (acc_text_not h)
        rw [decide_eq_true hr] at HRA
        have e1 := empF he
        have e2 := strF he
        have e3 := strT (rfl : ak.text c = ak.text c)
        clear he hr
        have HLL : Hid ((arows c (l.take k)).length ≤ 40) := by have := HAL.out; unfold Hid; simp at this; have := HL40.out; omega
        generalize ak.text c = s at *
        have HBX : Hid (Below wr.heap.size wr wr) := Below.refl _ _
        go_wp2_with fail
        go_region_held3 (fun W => W.cell? ⟨w.heap.size, 0, none⟩ = some (.int .i64 c.cells) ∧ W.cell? ⟨w.heap.size, 1, none⟩ = some (.int .i64 c.muts) ∧ W.cell? ⟨w.heap.size, 2, none⟩ = some (.int .i64 c.regs) ∧ W.cell? ⟨w.heap.size, 3, none⟩ = some (.int .i64 c.globs) ∧ W.cell? ⟨w1.heap.size, 0, none⟩ = some (.int .i64 c.cells) ∧ W.cell? ⟨w1.heap.size, 1, none⟩ = some (.int .i64 c.muts) ∧ W.cell? ⟨w1.heap.size, 2, none⟩ = some (.int .i64 c.regs) ∧ W.cell? ⟨w1.heap.size, 3, none⟩ = some (.int .i64 c.globs) ∧ W.cell? (ad.add (k * 5)) = some (.int .i64 ak.kind) ∧ W.cell? ⟨(ad.add (k * 5)).block, (ad.add (k * 5)).off + 1, none⟩ = some (.int .i64 ak.at_) ∧ W.cell? ⟨(ad.add (k * 5)).block, (ad.add (k * 5)).off + 2, none⟩ = some (.int .u64 ak.x) ∧ W.cell? ⟨(ad.add (k * 5)).block, (ad.add (k * 5)).off + 3, none⟩ = some (.int .u64 ak.y) ∧ W.cell? ⟨(ad.add (k * 5)).block, (ad.add (k * 5)).off + 4, none⟩ = some (.int .u64 ak.old) ∧ Below wr.heap.size wr W)
          (first | exact HALL.out _ HBX.out | exact HALL.out _ HBX.out.drew | (go_split_ands; exact HALL.out _ (Below.trans (by assumption) (hb2.mono (Below.size (by assumption))))) | (go_split_ands; exact HALL.out _ (by assumption)) | fail)
          (first | (go_at_call_of 16 (Value.int IntKind.i64 ak.kind); refine (H6.out _).mono ?_; rintro e wq ⟨rfl, hb2⟩) | fail)
        all_goals
         go_split_ands
         have hq : Below wr.heap.size wr wq := by assumption
         have HBq : Hid (Below w.heap.size w wq) := HB.out.trans (hq.mono HB.out.size)
         have HOq := Lib.hid (ownsRow_belowT HO.out hq)
         have HCq : Hid (wq.heap[w.heap.size]? = some c.obj) := (hq.block _ (block_lt HC.out)).trans HC.out
         have HMq : Hid (wq.heap[w1.heap.size]? = some c.mobj) := (hq.block _ (block_lt HM.out)).trans HM.out
         clear HBX
         have HBX : Hid (Below wr.heap.size wr wq) := hq
         go_wp2_with fail
         go_region_held3 (fun W => W.cell? ⟨w.heap.size, 0, none⟩ = some (.int .i64 c.cells) ∧ W.cell? ⟨w.heap.size, 1, none⟩ = some (.int .i64 c.muts) ∧ W.cell? ⟨w.heap.size, 2, none⟩ = some (.int .i64 c.regs) ∧ W.cell? ⟨w.heap.size, 3, none⟩ = some (.int .i64 c.globs) ∧ W.cell? ⟨w1.heap.size, 0, none⟩ = some (.int .i64 c.cells) ∧ W.cell? ⟨w1.heap.size, 1, none⟩ = some (.int .i64 c.muts) ∧ W.cell? ⟨w1.heap.size, 2, none⟩ = some (.int .i64 c.regs) ∧ W.cell? ⟨w1.heap.size, 3, none⟩ = some (.int .i64 c.globs) ∧ W.cell? (ad.add (k * 5)) = some (.int .i64 ak.kind) ∧ W.cell? ⟨(ad.add (k * 5)).block, (ad.add (k * 5)).off + 1, none⟩ = some (.int .i64 ak.at_) ∧ W.cell? ⟨(ad.add (k * 5)).block, (ad.add (k * 5)).off + 2, none⟩ = some (.int .u64 ak.x) ∧ W.cell? ⟨(ad.add (k * 5)).block, (ad.add (k * 5)).off + 3, none⟩ = some (.int .u64 ak.y) ∧ W.cell? ⟨(ad.add (k * 5)).block, (ad.add (k * 5)).off + 4, none⟩ = some (.int .u64 ak.old) ∧ Below wr.heap.size wr W)
           (first | exact HALL.out _ HBX.out | exact HALL.out _ HBX.out.drew | (go_split_ands; exact HALL.out _ (Below.trans (by assumption) (hb2.mono (Below.size (by assumption))))) | (go_split_ands; exact HALL.out _ (by assumption)) | fail)
           (first | (go_at_call_of 17 (Value.int IntKind.i64 ak.kind); refine (HTA.out _ (HT.out.below (Nat.le_refl _) (HB.out.trans (Below.mono (by go_split_ands; assumption) HB.out.size)))).mono ?_; rintro e wp ⟨rfl, hb2⟩) | (go_at_call_of 18 (Value.int IntKind.i64 ak.kind); refine (HRA.out _ (HT.out.below (Nat.le_refl _) (HB.out.trans (Below.mono (by go_split_ands; assumption) HB.out.size)))).mono ?_; rintro e wp ⟨rfl, hb2⟩) | fail)
         all_goals
          go_split_ands
          have hp : Below wr.heap.size wr wp := by assumption
          have HBp : Hid (Below w.heap.size w wp) := HB.out.trans (hp.mono HB.out.size)
          have HOp := Lib.hid (ownsRow_belowT HO.out hp)
          have HCp : Hid (wp.heap[w.heap.size]? = some c.obj) := (hp.block _ (block_lt HC.out)).trans HC.out
          have HMp : Hid (wp.heap[w1.heap.size]? = some c.mobj) := (hp.block _ (block_lt HM.out)).trans HM.out
          clear q0 q1 q2 q3 q4
          go_wp2_with (first | (at_builtin; refine app_strs rfl (.tmp 54) (.tmp 56) rfl W2.heap.size _ (arows c (l.take k)) [s] rfl (HOp.out.alloc _) _ _ 1 1 [.string s] rfl (reads_one _ _ _) rfl rfl (by have := HLL.out; simp; omega) (by have := HBB.out.size; have := hp.size; simp; omega) ?_; intro v6 w6 hown6 hb6; have HC6 : Hid (w6.heap[w.heap.size]? = some c.obj) := (hb6.block _ (by have := HWS.out; omega)).trans ((Below.heap_alloc _ _ _ (by have := block_lt HCp.out; omega)).trans HCp.out); have HM6 : Hid (w6.heap[w1.heap.size]? = some c.mobj) := (hb6.block _ (by have := HWS.out; omega)).trans ((Below.heap_alloc _ _ _ (by have := block_lt HMp.out; omega)).trans HMp.out); have HB6 : Hid (Below w.heap.size w w6) := (HBp.out.alloc HBp.out.size _).trans (hb6.mono (by have := HWS.out; omega)); have HBB6 : Hid (Below W2.heap.size W2 w6) := ((HBB.out.trans (hp.mono HBB.out.size)).alloc (by have := HBB.out.size; have := hp.size; omega) _).trans hb6; have HO6 := Lib.hid hown6; clear hown6 hb6))
          go_roundw
          case rel => exact ⟨k + 1, by have := HLT.out; omega, by go_num, by rw [HE.out]; exact HO6.out, HC6.out, HM6.out, HB6.out, HBB6.out⟩
          case measure => have := HLT.out; simp [intOf]; omega
    · have hke : l.take k = l := List.take_of_length_le (by omega)
      rw [hke] at HO
      have i1 : ¬ ((k : Nat) : Int) < (l.length : Int) := by omega
      obtain ⟨A2, cp, hv, hcap, hst⟩ := strs_of_own HO.out
      subst hv
      have HST := Lib.hid hst
      clear hst hcap HO hke
      obtain ⟨k0, k1, k2, k3⟩ := Cfg.mcells_at HM.out
      go_wp2_with fail
      refine (arows_any _ c A cc l ⟨HL.out.len, fun hp => by
        obtain ⟨ad, e, hB, hc⟩ := HL.out.at_ hp
        exact ⟨ad, e, Nat.lt_of_lt_of_le hB HB.out.size, fun j hj => by
          obtain ⟨ad', e', _, h⟩ := HL.out.cell HB.out hj
          rw [e] at e'
          injection e' with e'
          subst e'
          exact h⟩⟩ HL40.out HF.out (HT.out.below (Nat.le_refl _) HB.out)).mono ?_
      rintro e w5 ⟨A', c', rfl, hs5, hb⟩
      have HB5 : Hid (Below w.heap.size w w5) := HB.out.trans (hb.mono HB.out.size)
      have HS5 := Lib.hid hs5
      have HS2 : Hid (Strs w5 w5.heap.size A2 (arows c l)) := ⟨fun hp => by
        obtain ⟨ad, e, hB, hc⟩ := (HST.out.below hb).at_ hp
        exact ⟨ad, e, Nat.lt_of_lt_of_le hB hb.size, hc⟩⟩
      clear hb hs5 k0 k1 k2 k3
      have HAL := Lib.hid (arows_len c l)
      go_wp2_with fail
      refine (reftexts_same _ _ _ _ _ _ HS5.out HS2.out (by have := HAL.out; have := HL40.out; omega)).mono ?_
      rintro e w6 ⟨rfl, hb⟩
      have HB6 : Hid (Below w.heap.size w w6) := HB5.out.trans (hb.mono HB5.out.size)
      clear hb
      go_wp2_with fail
      go_ret
      exact ⟨rfl, HB6.out⟩
end Go.Proofs.YtcheafeaioflmaaDoor
