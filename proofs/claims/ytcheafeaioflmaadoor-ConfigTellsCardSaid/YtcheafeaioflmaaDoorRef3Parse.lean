/- The document's reading of a configuration, at any text. -/
import Derived.Test.YtcheafeaioflmaaDoorCfgParse
import Derived.Test.YtcheafeaioflmaaDoorRef3Pure
import Derived.Test.YtcheafeaioflmaaDoorRef03Text
namespace Go.Proofs.YtcheafeaioflmaaDoor
open Go Go.RowKit
set_option linter.unusedSimpArgs false
set_option linter.unusedVariables false

set_option maxHeartbeats 8000000 in
set_option maxRecDepth 100000 in
theorem ref3parse_any (w : World) (s : ByteArray) (hs : s.size ≤ 1000) :
    Calls Tryd.prog 25 #[.string s] w fun e w' => e = .returned (.tuple #[(cread s).1.v, .int .i64 (cread s).2]) ∧ Below w.heap.size w w' := by
  have HL : Hid (s.data.toList.length = s.size) := bytes_len s
  go_enter Tryd.func25, Tryd.ntmps25
  have HA0 : Hid (IntArr 113 ((w.alloc (⟨0, 0, 0, 0⟩ : Cfg).obj).alloc (.cells #[.int .i64 0, .int .i64 0, .int .i64 0, .int .i64 0] 113)) (w.heap.size + 1) (nums3 s.data.toList 0)) := by
    unfold Hid
    rw [show w.heap.size + 1 = (w.alloc (⟨0, 0, 0, 0⟩ : Cfg).obj).heap.size by simp]
    exact heap_alloc_new (w.alloc (⟨0, 0, 0, 0⟩ : Cfg).obj) (.cells #[.int .i64 0, .int .i64 0, .int .i64 0, .int .i64 0] 113)
  have HC0 : Hid (((w.alloc (⟨0, 0, 0, 0⟩ : Cfg).obj).alloc (.cells #[.int .i64 0, .int .i64 0, .int .i64 0, .int .i64 0] 113)).heap[w.heap.size]? = some (⟨0, 0, 0, 0⟩ : Cfg).obj) := (Below.heap_alloc _ _ _ (by simp)).trans (heap_alloc_new w _)
  have HB0 : Hid (Below w.heap.size w ((w.alloc (⟨0, 0, 0, 0⟩ : Cfg).obj).alloc (.cells #[.int .i64 0, .int .i64 0, .int .i64 0, .int .i64 0] 113))) := ((Below.refl _ _).alloc (Nat.le_refl _) _).alloc (by simp) _
  go_wp2_with fail
  go_loopw [5, 6] (fun at_ i wr => ∃ (k a : Nat), k ≤ 4 ∧ i = .int .i64 k ∧ at_ = .int .i64 a ∧ a ≤ s.size + 2 * k ∧ Hid (s.data.toList.drop a = rnds s.data.toList k) ∧ Hid (IntArr 113 wr (w.heap.size + 1) (nums3 s.data.toList k)) ∧ Hid (wr.heap[w.heap.size]? = some (⟨0, 0, 0, 0⟩ : Cfg).obj) ∧ Hid (Below w.heap.size w wr)) (fun _ i _ => 4 - (intOf i).toNat)
  case atStart => exact ⟨0, 0, by omega, rfl, rfl, by omega, rfl, HA0.out, HC0.out, HB0.out⟩
  case round =>
    obtain ⟨k, a, hk, rfl, rfl, ha, HR, HA, HC, HB⟩ := hrel
    have hs1 := HA.out.lt
    by_cases hlt : k < 4
    · have i4 : ((k : Nat) : Int) < 4 := by omega
      go_wp2_with fail
      go_loop [5] (fun at_ => ∃ a2 : Nat, at_ = .int .i64 a2 ∧ a2 ≤ s.size + 2 * k ∧ Hid (skipW (s.data.toList.drop a2) = skipW (rnds s.data.toList k))) (fun at_ => s.size - (intOf at_).toNat)
      case atStart => exact ⟨a, rfl, ha, by unfold Hid; rw [HR.out]⟩
      case round =>
        obtain ⟨a2, rfl, ha2, HSK⟩ := hrel
        by_cases h2 : a2 < s.size
        · have j1 : ((a2 : Nat) : Int) < (s.size : Int) := by omega
          have HG2 : Hid (s.data.toList[a2]'(by rw [HL.out]; exact h2) = s[a2]'h2) := by unfold Hid; simp [ByteArray.getElem_eq_getElem_data]
          have hr : ((s[a2]'h2).toNat : Int) < 256 := by have := (s[a2]'h2).toNat_lt; omega
          have hr0 : (0 : Int) ≤ ((s[a2]'h2).toNat : Int) := by omega
          by_cases h33 : (s[a2]'h2).toNat = 32
          · have e33 : (((s[a2]'h2).toNat : Int) != 32) = false := by rw [h33]; rfl
            have HNX : Hid (numW 0 (s.data.toList.drop (a2 + 1)) = numW 0 (skipW (rnds s.data.toList k)).tail) := by
              unfold Hid
              rw [← HSK.out, skipW_stop _ a2 (by rw [HL.out]; exact h2) (by rw [HG2.out]; exact UInt8.toNat_inj.1 h33), tail_drop]
            clear h33
            go_wp2_with fail
            go_loopw [5] (fun at_ wr2 => ∃ (b : Nat) (acc : Int), at_ = .int .i64 b ∧ b ≤ s.size + 2 * k + 1 ∧ Hid (numW acc (s.data.toList.drop b) = numW 0 (skipW (rnds s.data.toList k)).tail) ∧ Hid (IntArr 113 wr2 (w.heap.size + 1) ((nums3 s.data.toList k).set k acc)) ∧ Hid (wr2.heap[w.heap.size]? = some (⟨0, 0, 0, 0⟩ : Cfg).obj) ∧ Hid (Below w.heap.size w wr2)) (fun at_ _ => s.size - (intOf at_).toNat)
            case atStart => exact ⟨a2 + 1, 0, rfl, by omega, HNX.out, by unfold Hid; rw [nums3_zero]; exact HA.out, HC.out, HB.out⟩
            case round =>
              obtain ⟨b, acc, rfl, hb, HW2, HA2, HC2, HB2⟩ := hrel
              have c0 : wr.cell? ⟨w.heap.size + 1, k, none⟩ = some (.int .i64 acc) := by have := HA2.out.cell (k := k) (by simp [nums3_len, hlt]); simpa [nums3_len, hlt] using this
              have f0 : wr.frozen? ⟨w.heap.size + 1, k, none⟩ = false := frozen_of_block HA2.out k
              have hs2 := HA2.out.lt
              by_cases hb2 : b < s.size
              · have i1 : ((b : Nat) : Int) < (s.size : Int) := by omega
                have HG : Hid (s.data.toList[b]'(by rw [HL.out]; exact hb2) = s[b]'hb2) := by unfold Hid; simp [ByteArray.getElem_eq_getElem_data]
                have hq : ((s[b]'hb2).toNat : Int) < 256 := by have := (s[b]'hb2).toNat_lt; omega
                have hq0 : (0 : Int) ≤ ((s[b]'hb2).toNat : Int) := by omega
                by_cases h32 : (s[b]'hb2).toNat = 32
                · have e32 : (((s[b]'hb2).toNat : Int) != 32) = false := by rw [h32]; rfl
                  have HD := Lib.hid (rnd_done HW2.out (numW_stop _ b acc (by rw [HL.out]; exact hb2) (Or.inl (by rw [HG.out]; exact UInt8.toNat_inj.1 h32))))
                  clear h32
                  go_wp2_with fail
                  go_roundw
                  case rel => exact ⟨k + 1, b + 1, by omega, by go_num, by go_num, by omega, HD.out.2, by rw [← nums3_set _ _ hlt, HD.out.1]; exact HA2.out, HC2.out, HB2.out⟩
                  case measure => simp [intOf]; omega
                · have e32 : (((s[b]'hb2).toNat : Int) != 32) = true := by rw [bne_iff_ne]; omega
                  by_cases hac : acc < 10000
                  · have HST := Lib.hid (numW_step s.data.toList b acc (by rw [HL.out]; exact hb2) (by rw [HG.out]; exact fun e => h32 (by rw [e]; rfl)) hac)
                    rw [HG.out] at HST
                    clear h32
                    have wq : IntKind.i64.wrap ((s[b]'hb2).toNat : Int) = ((s[b]'hb2).toNat : Int) := IntWalk.i64_in _ (by omega)
                    have HV : Hid (wrap64 (wrap64 (wrap64 (10 * acc) + ((s[b]'hb2).toNat : Int)) - 48) = numStep acc (s[b]'hb2)) := by unfold numStep Hid; simp only [IntWalk.i64_left]
                    go_wp2_with fail
                    go_region_with (fail)
                    all_goals
                     go_wp2_with fail
                     go_roundw
                     case rel => exact ⟨b + 1, numStep acc (s[b]'hb2), by go_num, by omega, HST.out.trans HW2.out, (by rw [HV.out]; have h := HA2.out.put k (numStep acc (s[b]'hb2)); rw [List.set_set] at h; first | exact h | exact h.drew | fail), (by first | exact (Below.heap_setCell _ _ _ _ (by simp)).trans HC2.out | fail), (by first | exact HB2.out.setCell (by simp) _ | exact (HB2.out.setCell (by simp) _).drew | exact HB2.out.drew.setCell (by simp) _ | fail)⟩
                     case measure => simp [intOf]; omega
                  · have HD := Lib.hid (rnd_done HW2.out (numW_stop _ b acc (by rw [HL.out]; exact hb2) (Or.inr hac)))
                    clear h32
                    go_wp2_with fail
                    go_roundw
                    case rel => exact ⟨k + 1, b + 1, by omega, by go_num, by go_num, by omega, HD.out.2, by rw [← nums3_set _ _ hlt, HD.out.1]; exact HA2.out, HC2.out, HB2.out⟩
                    case measure => simp [intOf]; omega
              · have HD := Lib.hid (rnd_done HW2.out (numW_end _ b acc (by rw [HL.out]; omega)))
                go_wp2_with fail
                go_roundw
                case rel => exact ⟨k + 1, b + 1, by omega, by go_num, by go_num, by omega, HD.out.2, by rw [← nums3_set _ _ hlt, HD.out.1]; exact HA2.out, HC2.out, HB2.out⟩
                case measure => simp [intOf]; omega
          · have e33 : (((s[a2]'h2).toNat : Int) != 32) = true := by rw [bne_iff_ne]; omega
            have HNX : Hid (skipW (s.data.toList.drop (a2 + 1)) = skipW (rnds s.data.toList k)) := by
              unfold Hid
              rw [← HSK.out, skipW_step _ a2 (by rw [HL.out]; exact h2) (by rw [HG2.out]; exact fun e => h33 (by rw [e]; rfl))]
            clear h33
            go_wp2_with fail
            go_round
            case rel => exact ⟨a2 + 1, by go_num, by omega, HNX.out⟩
            case measure => simp [intOf]; omega
        · have HNX : Hid (numW 0 (s.data.toList.drop (a2 + 1)) = numW 0 (skipW (rnds s.data.toList k)).tail) := by
            unfold Hid
            rw [← HSK.out, skipW_end _ a2 (by rw [HL.out]; omega), tail_drop]
          go_wp2_with fail
          go_loopw [5] (fun at_ wr2 => ∃ (b : Nat) (acc : Int), at_ = .int .i64 b ∧ b ≤ s.size + 2 * k + 1 ∧ Hid (numW acc (s.data.toList.drop b) = numW 0 (skipW (rnds s.data.toList k)).tail) ∧ Hid (IntArr 113 wr2 (w.heap.size + 1) ((nums3 s.data.toList k).set k acc)) ∧ Hid (wr2.heap[w.heap.size]? = some (⟨0, 0, 0, 0⟩ : Cfg).obj) ∧ Hid (Below w.heap.size w wr2)) (fun at_ _ => s.size - (intOf at_).toNat)
          case atStart => exact ⟨a2 + 1, 0, rfl, by omega, HNX.out, by unfold Hid; rw [nums3_zero]; exact HA.out, HC.out, HB.out⟩
          case round =>
            obtain ⟨b, acc, rfl, hb, HW2, HA2, HC2, HB2⟩ := hrel
            have c0 : wr.cell? ⟨w.heap.size + 1, k, none⟩ = some (.int .i64 acc) := by have := HA2.out.cell (k := k) (by simp [nums3_len, hlt]); simpa [nums3_len, hlt] using this
            have f0 : wr.frozen? ⟨w.heap.size + 1, k, none⟩ = false := frozen_of_block HA2.out k
            have hs2 := HA2.out.lt
            by_cases hb2 : b < s.size
            · have i1 : ((b : Nat) : Int) < (s.size : Int) := by omega
              have HG : Hid (s.data.toList[b]'(by rw [HL.out]; exact hb2) = s[b]'hb2) := by unfold Hid; simp [ByteArray.getElem_eq_getElem_data]
              have hq : ((s[b]'hb2).toNat : Int) < 256 := by have := (s[b]'hb2).toNat_lt; omega
              have hq0 : (0 : Int) ≤ ((s[b]'hb2).toNat : Int) := by omega
              by_cases h32 : (s[b]'hb2).toNat = 32
              · have e32 : (((s[b]'hb2).toNat : Int) != 32) = false := by rw [h32]; rfl
                have HD := Lib.hid (rnd_done HW2.out (numW_stop _ b acc (by rw [HL.out]; exact hb2) (Or.inl (by rw [HG.out]; exact UInt8.toNat_inj.1 h32))))
                clear h32
                go_wp2_with fail
                go_roundw
                case rel => exact ⟨k + 1, b + 1, by omega, by go_num, by go_num, by omega, HD.out.2, by rw [← nums3_set _ _ hlt, HD.out.1]; exact HA2.out, HC2.out, HB2.out⟩
                case measure => simp [intOf]; omega
              · have e32 : (((s[b]'hb2).toNat : Int) != 32) = true := by rw [bne_iff_ne]; omega
                by_cases hac : acc < 10000
                · have HST := Lib.hid (numW_step s.data.toList b acc (by rw [HL.out]; exact hb2) (by rw [HG.out]; exact fun e => h32 (by rw [e]; rfl)) hac)
                  rw [HG.out] at HST
                  clear h32
                  have wq : IntKind.i64.wrap ((s[b]'hb2).toNat : Int) = ((s[b]'hb2).toNat : Int) := IntWalk.i64_in _ (by omega)
                  have HV : Hid (wrap64 (wrap64 (wrap64 (10 * acc) + ((s[b]'hb2).toNat : Int)) - 48) = numStep acc (s[b]'hb2)) := by unfold numStep Hid; simp only [IntWalk.i64_left]
                  go_wp2_with fail
                  go_region_with (fail)
                  all_goals
                   go_wp2_with fail
                   go_roundw
                   case rel => exact ⟨b + 1, numStep acc (s[b]'hb2), by go_num, by omega, HST.out.trans HW2.out, (by rw [HV.out]; have h := HA2.out.put k (numStep acc (s[b]'hb2)); rw [List.set_set] at h; first | exact h | exact h.drew | fail), (by first | exact (Below.heap_setCell _ _ _ _ (by simp)).trans HC2.out | fail), (by first | exact HB2.out.setCell (by simp) _ | exact (HB2.out.setCell (by simp) _).drew | exact HB2.out.drew.setCell (by simp) _ | fail)⟩
                   case measure => simp [intOf]; omega
                · have HD := Lib.hid (rnd_done HW2.out (numW_stop _ b acc (by rw [HL.out]; exact hb2) (Or.inr hac)))
                  clear h32
                  go_wp2_with fail
                  go_roundw
                  case rel => exact ⟨k + 1, b + 1, by omega, by go_num, by go_num, by omega, HD.out.2, by rw [← nums3_set _ _ hlt, HD.out.1]; exact HA2.out, HC2.out, HB2.out⟩
                  case measure => simp [intOf]; omega
            · have HD := Lib.hid (rnd_done HW2.out (numW_end _ b acc (by rw [HL.out]; omega)))
              go_wp2_with fail
              go_roundw
              case rel => exact ⟨k + 1, b + 1, by omega, by go_num, by go_num, by omega, HD.out.2, by rw [← nums3_set _ _ hlt, HD.out.1]; exact HA2.out, HC2.out, HB2.out⟩
              case measure => simp [intOf]; omega
    · obtain rfl : k = 4 := by omega
      obtain ⟨c, hcn, hcd⟩ : ∃ c : Cfg, nums3 s.data.toList 4 = [c.cells, c.muts, c.regs, c.globs] ∧ ∀ d : Cfg, d.ok = true → d.text = s → c = d := ⟨⟨rnum s.data.toList 0, rnum s.data.toList 1, rnum s.data.toList 2, rnum s.data.toList 3⟩, rfl, rnum_cfg⟩
      rw [hcn] at HA
      have HNC := Lib.hid hcd
      have a0 : wr.cell? ⟨w.heap.size + 1, 0, none⟩ = some (.int .i64 c.cells) := HA.out.cell (k := 0) (by simp)
      have a1 : wr.cell? ⟨w.heap.size + 1, 1, none⟩ = some (.int .i64 c.muts) := HA.out.cell (k := 1) (by simp)
      have a2 : wr.cell? ⟨w.heap.size + 1, 2, none⟩ = some (.int .i64 c.regs) := HA.out.cell (k := 2) (by simp)
      have a3 : wr.cell? ⟨w.heap.size + 1, 3, none⟩ = some (.int .i64 c.globs) := HA.out.cell (k := 3) (by simp)
      clear hlt hk hcn hcd HR ha
      have HBR : Hid (Below w.heap.size w (wr.alloc c.obj)) := HB.out.alloc HB.out.size _
      have HCR : Hid ((wr.alloc c.obj).heap[w.heap.size]? = some (⟨0, 0, 0, 0⟩ : Cfg).obj) := (Below.heap_alloc _ _ _ (block_lt HC.out)).trans HC.out
      have HXR : Hid ((wr.alloc c.obj).heap[wr.heap.size]? = some c.obj) := heap_alloc_new wr _
      go_wp2_with fail
      refine (refright_any _ c).mono ?_
      rintro e w4 ⟨rfl, hb⟩
      have HB4 : Hid (Below w.heap.size w w4) := HBR.out.trans (hb.mono HBR.out.size)
      have HC4 : Hid (w4.heap[w.heap.size]? = some (⟨0, 0, 0, 0⟩ : Cfg).obj) := (hb.block _ (block_lt HCR.out)).trans HCR.out
      have HX4 : Hid (w4.heap[wr.heap.size]? = some c.obj) := (hb.block _ (block_lt HXR.out)).trans HXR.out
      clear hb a0 a1 a2 a3
      obtain ⟨a0, a1, a2, a3⟩ := Cfg.cells_at HX4.out
      have hs4 := block_lt HX4.out
      by_cases ok : c.ok = true
      · have HOK := Lib.hid ok
        rw [HOK.out]
        go_wp2_with fail
        refine (ref3text_any _ c).mono ?_
        rintro e w5 ⟨rfl, hb⟩
        have HB5 : Hid (Below w.heap.size w w5) := HB4.out.trans (hb.mono HB4.out.size)
        have HC5 : Hid (w5.heap[w.heap.size]? = some (⟨0, 0, 0, 0⟩ : Cfg).obj) := (hb.block _ (block_lt HC4.out)).trans HC4.out
        have HX5 : Hid (w5.heap[wr.heap.size]? = some c.obj) := (hb.block _ (block_lt HX4.out)).trans HX4.out
        clear hb a0 a1 a2 a3
        obtain ⟨a0, a1, a2, a3⟩ := Cfg.cells_at HX5.out
        have hs5 := block_lt HX5.out
        by_cases hts : c.text = s
        · have HNY : Hid (cread s = (c, 0)) := cread_yes ok hts
          have q1 := strT hts
          clear ok hts
          generalize c.text = tx at q1
          obtain ⟨z0, z1, z2, z3⟩ := Cfg.cells_at HC5.out
          have f0 := frozen_of_block HC5.out 0
          have f1 := frozen_of_block HC5.out 1
          have f2 := frozen_of_block HC5.out 2
          have f3 := frozen_of_block HC5.out 3
          have hsz0 := block_lt HC5.out
          go_wp2_with fail
          exact bodyPost_ret (v := .tuple #[.agg #[.int .i64 c.cells, .int .i64 c.muts, .int .i64 c.regs, .int .i64 c.globs], .int .i64 0]) (by simp [results, Tryd.results25, go_sem, z0, z1, z2, z3]) rfl
            ⟨by rw [HNY.out], by repeat (first | exact HB5.out | refine Below.setCell ?_ (by simp) _)⟩
        · have HNY : Hid (cread s = (⟨0, 0, 0, 0⟩, 3)) := cread_off HNC.out (fun h => hts h.2)
          have q1 := strF hts
          clear ok hts
          generalize c.text = tx at q1
          obtain ⟨z0, z1, z2, z3⟩ := Cfg.cells_at HC5.out
          have f0 := frozen_of_block HC5.out 0
          have f1 := frozen_of_block HC5.out 1
          have f2 := frozen_of_block HC5.out 2
          have f3 := frozen_of_block HC5.out 3
          have hsz0 := block_lt HC5.out
          go_wp2_with fail
          exact bodyPost_ret (v := .tuple #[.agg #[.int .i64 0, .int .i64 0, .int .i64 0, .int .i64 0], .int .i64 3]) (by simp [results, Tryd.results25, go_sem, z0, z1, z2, z3]) rfl
            ⟨by rw [HNY.out], by repeat (first | exact HB5.out | refine Below.setCell ?_ (by simp) _)⟩
      · have HOK : Hid (c.ok = false) := by unfold Hid; simpa using ok
        rw [HOK.out]
        have HNY : Hid (cread s = (⟨0, 0, 0, 0⟩, 3)) := cread_off HNC.out (fun h => ok h.1)
        clear ok
        obtain ⟨z0, z1, z2, z3⟩ := Cfg.cells_at HC4.out
        have f0 := frozen_of_block HC4.out 0
        have f1 := frozen_of_block HC4.out 1
        have f2 := frozen_of_block HC4.out 2
        have f3 := frozen_of_block HC4.out 3
        have hsz0 := block_lt HC4.out
        go_wp2_with fail
        exact bodyPost_ret (v := .tuple #[.agg #[.int .i64 0, .int .i64 0, .int .i64 0, .int .i64 0], .int .i64 3]) (by simp [results, Tryd.results25, go_sem, z0, z1, z2, z3]) rfl
          ⟨by rw [HNY.out], by repeat (first | exact HB4.out | refine Below.setCell ?_ (by simp) _)⟩
end Go.Proofs.YtcheafeaioflmaaDoor
